-- written by pp.py of this session's wip: the kit's print, turned in a few places, over this claim's program
import Derived.Test.YtgkaiagoogjibaaPBindx0
import Derived.Test.YtgkaiagoogjibaaPBindx1
import Derived.Test.YtgkaiagoogjibaaPBindx2
import Derived.Test.YtgkaiagoogjibaaPBindx3
import Derived.Test.YtgkaiagoogjibaaPBindx6
import Derived.Test.YtgkaiagoogjibaaPBindx8
namespace Go.Proofs.Ytgkaiagoogjibaa.PBind
open Go.RowKit Go.Proofs.YtgkaiagoogjibaaW.PrintWords Go.Proofs.YtgkaiagoogjibaaW.PrintLast Go.Proofs.YtgkaiagoogjibaaW.PrintMore
open Go.Proofs.YtgkaiagoogjibaaW.PrintWords renaming blk_drewN → bkN, blk_drew → bkD, blk_alloc → bkA, below_alloc → bwA, pw_below_drewN → bwN, below_drew1 → bwD, below_size → bwZ, below_step → bwP, blk_below → bkB, blk_cell → bkC, blk_frozen → bkF, blk_put → bkU, blk_far → bkR, blk_lt → bkL
open Go.Proofs.YtgkaiagoogjibaaW.PrintWords.Aside0 renaming mk → aM
attribute [local go_sem] max2_int min2_int max_two min_two max_three min_three max_four min_four   -- for this text's walks alone
set_option linter.unusedVariables false
set_option linter.unusedSimpArgs false

attribute [local go_sem high] eqA36
/-! ### bind_Binder_Key: function 23 -/
theorem digit_same {s0_0 : Int} {s0_1 : Bool} {s0_2 a1_0 a1_1 : Int} {a1_2 a1_3 a1_4 : Bool} {a1_5 : ByteArray} {r1 : Bool} {r2 : Int} {r3 : Bool} {r4 : Int}
    (h : bind_Binder_digit.f s0_0 s0_1 s0_2 a1_0 a1_1 a1_2 a1_3 a1_4 a1_5 = some (r1, r2, r3, r4)) : r2 = s0_0 ∧ r3 = s0_1 ∧ r4 = s0_2 := by
 unfold bind_Binder_digit.f at h
 repeat' split at h
 all_goals (simp only [Option.some.injEq, Prod.mk.injEq] at h; obtain ⟨-, rfl, rfl, rfl⟩ := h; exact ⟨rfl, rfl, rfl⟩)
/-- What a call of 'Key' holds beside the state: the box of the key, the result's cell. -/
structure KeyAt (w0 w W : World) (g : Nat) (s0_0 : Int) (s0_1 : Bool) (s0_2 : Int) (a1_0 : Int) (a1_1 : Int) (a1_2 : Bool) (a1_3 : Bool) (a1_4 : Bool) (a1_5 : ByteArray) : Prop where
  st : IsS53 w0 W g s0_0 s0_1 s0_2
  bel : Below w0.heap.size w0 W
  keep : KeepBut w W g none
  box : W.heap[w.heap.size]? = some (.cells #[.int .i64 a1_0, .int .i32 a1_1, .bool a1_2, .bool a1_3, .bool a1_4, .string a1_5] 25 (0, 0))
  res : W.heap[w.heap.size + 1]? = some (.cells #[.int .i64 0, .int .i64 0, .string ⟨#[]⟩, .int .u8 0] 36 (0, 0))
theorem KeyAt.start {w0 w : World} {g : Nat} {s0_0 : Int} {s0_1 : Bool} {s0_2 : Int} {a1_0 : Int} {a1_1 : Int} {a1_2 : Bool} {a1_3 : Bool} {a1_4 : Bool} {a1_5 : ByteArray} (hI : IsS53 w0 w g s0_0 s0_1 s0_2) (hB : Below w0.heap.size w0 w) :
    KeyAt w0 w ((w.alloc (.cells #[.int .i64 a1_0, .int .i32 a1_1, .bool a1_2, .bool a1_3, .bool a1_4, .string a1_5] 25)).alloc (.cells #[.int .i64 0, .int .i64 0, .string ⟨#[]⟩, .int .u8 0] 36)) g s0_0 s0_1 s0_2 a1_0 a1_1 a1_2 a1_3 a1_4 a1_5 :=
  ⟨(hI.alloc _).alloc _, bwA (bwA hB _) _, keep_alloc (keep_alloc (KeepBut.refl _ _ _) _) _, bkA (heap_alloc_new w _) _, heap_alloc2_new w _ _⟩
theorem KeyAt.call {w0 w W W1 : World} {g : Nat} {s0_0 t0 : Int} {s0_1 t1 : Bool} {s0_2 t2 : Int} {a1_0 : Int} {a1_1 : Int} {a1_2 : Bool} {a1_3 : Bool} {a1_4 : Bool} {a1_5 : ByteArray} (h : KeyAt w0 w W g s0_0 s0_1 s0_2 a1_0 a1_1 a1_2 a1_3 a1_4 a1_5) (hlt : g < w.heap.size)
    (hI : IsS53 w0 W1 g t0 t1 t2) (hB : Below w0.heap.size w0 W1) (hK : KeepBut W W1 g none) : KeyAt w0 w W1 g t0 t1 t2 a1_0 a1_1 a1_2 a1_3 a1_4 a1_5 :=
  ⟨hI, hB, h.keep.trans hK (.inl rfl), hK.blk h.box (by omega) (by simp), hK.blk h.res (by omega) (by simp)⟩
theorem KeyAt.quiet {w0 w W W1 : World} {g : Nat} {s0_0 : Int} {s0_1 : Bool} {s0_2 : Int} {a1_0 : Int} {a1_1 : Int} {a1_2 : Bool} {a1_3 : Bool} {a1_4 : Bool} {a1_5 : ByteArray} (h : KeyAt w0 w W g s0_0 s0_1 s0_2 a1_0 a1_1 a1_2 a1_3 a1_4 a1_5)
    (hB : Below W.heap.size W W1) : KeyAt w0 w W1 g s0_0 s0_1 s0_2 a1_0 a1_1 a1_2 a1_3 a1_4 a1_5 :=
  ⟨h.st.below hB, below_then h.bel h.bel.size hB, h.keep.trans (KeepBut.of_below hB g none) (.inl rfl), bkB h.box hB, bkB h.res hB⟩

set_option maxHeartbeats 1000000 in
set_option maxRecDepth 100000 in
theorem key_digit (g : Nat) (s0_0 : Int) (s0_1 : Bool) (s0_2 : Int) (a1_0 : Int) (a1_1 : Int) (a1_2 : Bool) (a1_3 : Bool) (a1_4 : Bool) (a1_5 : ByteArray) (w0 w : World) (hI : IsS53 w0 w g s0_0 s0_1 s0_2) (hB : Below w0.heap.size w0 w)
    (h : bind_Binder_digit.f s0_0 s0_1 s0_2 a1_0 a1_1 a1_2 a1_3 a1_4 a1_5 = some (true, s0_0, s0_1, s0_2)) :
    Calls Try.prog 23 #[.pointer (some ⟨g, 0, none⟩), .agg #[.int .i64 a1_0, .int .i32 a1_1, .bool a1_2, .bool a1_3, .bool a1_4, .string a1_5]] w fun e w' => e = .returned (.tuple #[.agg #[.int .i64 0, .int .i64 0, .string ⟨#[]⟩, .int .u8 0], .bool false]) ∧ IsS53 w0 w' g s0_0 true (mn (wrap64 (wrap64 (s0_2 * 10) + wrap64 (wrap32 (a1_1 - 48)))) 1000) ∧ Below w0.heap.size w0 w' ∧ KeepBut w w' g none := by
 have hlt := aM hI.lt
 have hge := aM hI.ge
 have HA := aM (KeyAt.start (a1_0 := a1_0) (a1_1 := a1_1) (a1_2 := a1_2) (a1_3 := a1_3) (a1_4 := a1_4) (a1_5 := a1_5) hI hB)
 have HBS := aM hB.size
 clear hI hB
 have H := aM h
 clear h
 go_enter Try.func23, Try.ntmps23
 go_wp2_with (go_at_call 31; refine (bind_Binder_digit.calls g s0_0 s0_1 s0_2 a1_0 a1_1 a1_2 a1_3 a1_4 a1_5 true s0_0 s0_1 s0_2 w0 _ HA.1.st HA.1.bel H.out).mono ?_; rintro e w1 ⟨rfl, hI1, hB1, hK1⟩; have HA1 := aM (HA.1.call hlt.out hI1 hB1 hK1); clear hI1 hB1 hK1 HA)
 have hne1 : g ≠ w.heap.size := by have := hlt.out; omega
 have hne2 : g ≠ w.heap.size + 1 := by have := hlt.out; omega
 have hne1' : w.heap.size ≠ g := by have := hlt.out; omega
 have hne2' : w.heap.size + 1 ≠ g := by have := hlt.out; omega
 have c1 : w1.cell? ⟨w.heap.size, 1, none⟩ = some (.int .i32 a1_1) := (bkC HA1.out.box 1).trans rfl
 have c2 := cellS53_1 HA1.out.st.1
 have c3 := cellS53_2 HA1.out.st.1
 have f0 := bkF HA1.out.st.1 1
 have f1 := bkF HA1.out.st.1 2
 have hmin : ∀ x : Int, x ≤ 1000 ∨ 1000 < x := fun x => by omega
 rcases hmin (wrap64 (wrap64 (s0_2 * 10) + wrap64 (wrap32 (a1_1 - 48)))) with hm | hm
 all_goals
  clear hmin
  have HM := aM hm
  go_region
  have d0 : w1.cell? ⟨w.heap.size + 1, 0, none⟩ = some (.int .i64 0) := (bkC HA1.out.res 0).trans rfl
  have d1 : w1.cell? ⟨w.heap.size + 1, 1, none⟩ = some (.int .i64 0) := (bkC HA1.out.res 1).trans rfl
  have d2 : w1.cell? ⟨w.heap.size + 1, 2, none⟩ = some (.string ⟨#[]⟩) := (bkC HA1.out.res 2).trans rfl
  have d3 : w1.cell? ⟨w.heap.size + 1, 3, none⟩ = some (.int .u8 0) := (bkC HA1.out.res 3).trans rfl
  have e0 := bkF HA1.out.res 0
  have e1 := bkF HA1.out.res 1
  have e2 := bkF HA1.out.res 2
  have e3 := bkF HA1.out.res 3
  go_wp2
  refine bodyPost_ret (results_ct rfl _ _ (w.heap.size + 1) 36 #[.int .i64 0, .int .i64 0, .string ⟨#[]⟩, .int .u8 0] (0, 0) _ rfl ?_ Try.underlying36 rfl (by kernel_rfl)) rfl ?_
  ·refine bkD (bkU (cs := #[.int .i64 0, .int .i64 0, .string ⟨#[]⟩, .int .u8 0]) (bkU (cs := #[.int .i64 0, .int .i64 0, .string ⟨#[]⟩, .int .u8 0]) (bkU (cs := #[.int .i64 0, .int .i64 0, .string ⟨#[]⟩, .int .u8 0]) (bkU (cs := #[.int .i64 0, .int .i64 0, .string ⟨#[]⟩, .int .u8 0]) (bkR (bkR HA1.out.res hne2' _) hne2' _) 0 _ rfl) 1 _ rfl) 2 _ rfl) 3 _ rfl)
  refine ⟨rfl, ?_, ?_, ?_⟩
  ·first
    | rw [show mn (wrap64 (wrap64 (s0_2 * 10) + wrap64 (wrap32 (a1_1 - 48)))) 1000 = wrap64 (wrap64 (s0_2 * 10) + wrap64 (wrap32 (a1_1 - 48))) from by have := HM.out; unfold mn; omega]
    | rw [show mn (wrap64 (wrap64 (s0_2 * 10) + wrap64 (wrap32 (a1_1 - 48)))) 1000 = 1000 from by have := HM.out; unfold mn; omega]
   refine IsS53.drew ?_
   refine IsS53.far (IsS53.far (IsS53.far (IsS53.far ?_ hne2 _) hne2 _) hne2 _) hne2 _
   exact (HA1.out.st.set_1 _).set_2 _
  ·have hz : w0.heap.size ≤ w.heap.size + 1 := by have := HBS.out; omega
   exact bwD (bwS (bwS (bwS (bwS (bwS (bwS HA1.out.bel hge.out) hge.out) hz) hz) hz) hz)
  have hz : w.heap.size ≤ w.heap.size + 1 := by omega
  exact keep_drew (keep_far (keep_far (keep_far (keep_far ((HA1.out.keep.set_ _ _).set_ _ _) hz _) hz _) hz _) hz _)
theorem KeyAt.far {w0 w W : World} {g : Nat} {s0_0 : Int} {s0_1 : Bool} {s0_2 : Int} {a1_0 : Int} {a1_1 : Int} {a1_2 : Bool} {a1_3 : Bool} {a1_4 : Bool} {a1_5 : ByteArray} (h : KeyAt w0 w W g s0_0 s0_1 s0_2 a1_0 a1_1 a1_2 a1_3 a1_4 a1_5)
    {b : Nat} (h1 : w0.heap.size ≤ b) (h2 : w.heap.size ≤ b) (hg : g ≠ b) (h3 : w.heap.size ≠ b) (h4 : w.heap.size + 1 ≠ b) (j : Nat) (u : Value) : KeyAt w0 w (W.setCell ⟨b, j, none⟩ u) g s0_0 s0_1 s0_2 a1_0 a1_1 a1_2 a1_3 a1_4 a1_5 :=
  ⟨h.st.far hg u, bwS h.bel h1, keep_far h.keep h2 u, bkR h.box h3 u, bkR h.res h4 u⟩
theorem KeyAt.four {w0 w W : World} {g : Nat} {s0_0 : Int} {s0_1 : Bool} {s0_2 : Int} {a1_0 : Int} {a1_1 : Int} {a1_2 : Bool} {a1_3 : Bool} {a1_4 : Bool} {a1_5 : ByteArray} (h : KeyAt w0 w W g s0_0 s0_1 s0_2 a1_0 a1_1 a1_2 a1_3 a1_4 a1_5)
    {b : Nat} (h1 : w0.heap.size ≤ b) (h2 : w.heap.size ≤ b) (hg : g ≠ b) (h3 : w.heap.size ≠ b) (h4 : w.heap.size + 1 ≠ b) (u0 u1 u2 u3 : Value) : KeyAt w0 w ((((W.setCell ⟨b, 0, none⟩ u0).setCell ⟨b, 1, none⟩ u1).setCell ⟨b, 2, none⟩ u2).setCell ⟨b, 3, none⟩ u3) g s0_0 s0_1 s0_2 a1_0 a1_1 a1_2 a1_3 a1_4 a1_5 :=
  (((h.far h1 h2 hg h3 h4 0 u0).far h1 h2 hg h3 h4 1 u1).far h1 h2 hg h3 h4 2 u2).far h1 h2 hg h3 h4 3 u3

set_option maxHeartbeats 1000000 in
set_option maxRecDepth 100000 in
theorem key_prefix (k : Nat) (g : Nat) (s0_1 : Bool) (s0_2 : Int) (a1_0 : Int) (a1_1 : Int) (a1_2 : Bool) (a1_3 : Bool) (a1_4 : Bool) (a1_5 : ByteArray) (q : Int) (w0 w : World) (hI : IsS53 w0 w g 0 s0_1 s0_2) (hB : Below w0.heap.size w0 w) (h : bind_Binder_digit.f 0 s0_1 s0_2 a1_0 a1_1 a1_2 a1_3 a1_4 a1_5 = some (false, 0, s0_1, s0_2)) (hp : bind_prefixOf.f k a1_0 a1_1 a1_2 a1_3 a1_4 a1_5 = some q) (hq : (q != 0) = true) :
    Calls Try.prog 23 #[.pointer (some ⟨g, 0, none⟩), .agg #[.int .i64 a1_0, .int .i32 a1_1, .bool a1_2, .bool a1_3, .bool a1_4, .string a1_5]] w fun e w' => e = .returned (.tuple #[.agg #[.int .i64 0, .int .i64 0, .string ⟨#[]⟩, .int .u8 0], .bool false]) ∧ IsS53 w0 w' g q s0_1 s0_2 ∧ Below w0.heap.size w0 w' ∧ KeepBut w w' g none := by
 have hlt := aM hI.lt
 have hge := aM hI.ge
 have HA := aM (KeyAt.start (a1_0 := a1_0) (a1_1 := a1_1) (a1_2 := a1_2) (a1_3 := a1_3) (a1_4 := a1_4) (a1_5 := a1_5) hI hB)
 have HBS := aM hB.size
 clear hI hB
 have H := aM h
 have HP := aM hp
 clear h hp
 have hne1 : g ≠ w.heap.size := by have := hlt.out; omega
 have hne2 : g ≠ w.heap.size + 1 := by have := hlt.out; omega
 have hne1' : w.heap.size ≠ g := by have := hlt.out; omega
 have hne2' : w.heap.size + 1 ≠ g := by have := hlt.out; omega
 go_enter Try.func23, Try.ntmps23
 go_wp2_with (first
  | (go_at_call 31; refine (bind_Binder_digit.calls g 0 s0_1 s0_2 a1_0 a1_1 a1_2 a1_3 a1_4 a1_5 false 0 s0_1 s0_2 w0 _ HA.1.st HA.1.bel H.out).mono ?_; rintro e w1 ⟨rfl, hI1, hB1, hK1⟩; have HA1 := aM (HA.1.call hlt.out hI1 hB1 hK1); clear hI1 hB1 hK1 HA H; have b0 : w1.cell? ⟨w.heap.size, 0, none⟩ = some (.int .i64 a1_0) := (bkC HA1.out.box 0).trans rfl; have b1 : w1.cell? ⟨w.heap.size, 1, none⟩ = some (.int .i32 a1_1) := (bkC HA1.out.box 1).trans rfl; have b2 : w1.cell? ⟨w.heap.size, 2, none⟩ = some (.bool a1_2) := (bkC HA1.out.box 2).trans rfl; have b3 : w1.cell? ⟨w.heap.size, 3, none⟩ = some (.bool a1_3) := (bkC HA1.out.box 3).trans rfl; have b4 : w1.cell? ⟨w.heap.size, 4, none⟩ = some (.bool a1_4) := (bkC HA1.out.box 4).trans rfl; have b5 : w1.cell? ⟨w.heap.size, 5, none⟩ = some (.string a1_5) := (bkC HA1.out.box 5).trans rfl; have c0 := cellS53_0 HA1.out.st.1; have f0 := bkF HA1.out.st.1 0; have c1 := cellS53_1 HA1.out.st.1; have f1 := bkF HA1.out.st.1 1; have c2 := cellS53_2 HA1.out.st.1; have f2 := bkF HA1.out.st.1 2)
  | (go_at_call 32; refine (bind_prefixOf.calls k a1_0 a1_1 a1_2 a1_3 a1_4 a1_5 q _ HP.out).mono ?_; rintro e w2 ⟨rfl, hB2⟩; have HA2 := aM (HA1.out.quiet hB2); clear hB2 HA1; clear b0 b1 b2 b3 b4 b5 c0 f0 c1 f1 c2 f2; have b0 : w2.cell? ⟨w.heap.size, 0, none⟩ = some (.int .i64 a1_0) := (bkC HA2.out.box 0).trans rfl; have b1 : w2.cell? ⟨w.heap.size, 1, none⟩ = some (.int .i32 a1_1) := (bkC HA2.out.box 1).trans rfl; have b2 : w2.cell? ⟨w.heap.size, 2, none⟩ = some (.bool a1_2) := (bkC HA2.out.box 2).trans rfl; have b3 : w2.cell? ⟨w.heap.size, 3, none⟩ = some (.bool a1_3) := (bkC HA2.out.box 3).trans rfl; have b4 : w2.cell? ⟨w.heap.size, 4, none⟩ = some (.bool a1_4) := (bkC HA2.out.box 4).trans rfl; have b5 : w2.cell? ⟨w.heap.size, 5, none⟩ = some (.string a1_5) := (bkC HA2.out.box 5).trans rfl; have c0 := cellS53_0 HA2.out.st.1; have f0 := bkF HA2.out.st.1 0; have c1 := cellS53_1 HA2.out.st.1; have f1 := bkF HA2.out.st.1 1; have c2 := cellS53_2 HA2.out.st.1; have f2 := bkF HA2.out.st.1 2)
  | (go_at_call 32; refine (bind_prefixOf.calls k a1_0 a1_1 a1_2 a1_3 a1_4 a1_5 q _ HP.out).mono ?_; rintro e w3 ⟨rfl, hB2⟩; have HA3 := aM (HA2.out.quiet hB2); clear hB2 HA2; clear b0 b1 b2 b3 b4 b5 c0 f0 c1 f1 c2 f2; have b0 : w3.cell? ⟨w.heap.size, 0, none⟩ = some (.int .i64 a1_0) := (bkC HA3.out.box 0).trans rfl; have b1 : w3.cell? ⟨w.heap.size, 1, none⟩ = some (.int .i32 a1_1) := (bkC HA3.out.box 1).trans rfl; have b2 : w3.cell? ⟨w.heap.size, 2, none⟩ = some (.bool a1_2) := (bkC HA3.out.box 2).trans rfl; have b3 : w3.cell? ⟨w.heap.size, 3, none⟩ = some (.bool a1_3) := (bkC HA3.out.box 3).trans rfl; have b4 : w3.cell? ⟨w.heap.size, 4, none⟩ = some (.bool a1_4) := (bkC HA3.out.box 4).trans rfl; have b5 : w3.cell? ⟨w.heap.size, 5, none⟩ = some (.string a1_5) := (bkC HA3.out.box 5).trans rfl; have c0 := cellS53_0 HA3.out.st.1; have f0 := bkF HA3.out.st.1 0; have c1 := cellS53_1 HA3.out.st.1; have f1 := bkF HA3.out.st.1 1; have c2 := cellS53_2 HA3.out.st.1; have f2 := bkF HA3.out.st.1 2; have d0 : w3.cell? ⟨w.heap.size + 1, 0, none⟩ = some (.int .i64 0) := (bkC HA3.out.res 0).trans rfl; have e0 := bkF HA3.out.res 0; have d1 : w3.cell? ⟨w.heap.size + 1, 1, none⟩ = some (.int .i64 0) := (bkC HA3.out.res 1).trans rfl; have e1 := bkF HA3.out.res 1; have d2 : w3.cell? ⟨w.heap.size + 1, 2, none⟩ = some (.string ⟨#[]⟩) := (bkC HA3.out.res 2).trans rfl; have e2 := bkF HA3.out.res 2; have d3 : w3.cell? ⟨w.heap.size + 1, 3, none⟩ = some (.int .u8 0) := (bkC HA3.out.res 3).trans rfl; have e3 := bkF HA3.out.res 3))
 refine bodyPost_ret (results_ct rfl _ _ (w.heap.size + 1) 36 #[.int .i64 0, .int .i64 0, .string ⟨#[]⟩, .int .u8 0] (0, 0) _ rfl ?_ Try.underlying36 rfl (by kernel_rfl)) rfl ?_
 ·exact (bkU (cs := #[.int .i64 0, .int .i64 0, .string ⟨#[]⟩, .int .u8 0]) (bkU (cs := #[.int .i64 0, .int .i64 0, .string ⟨#[]⟩, .int .u8 0]) (bkU (cs := #[.int .i64 0, .int .i64 0, .string ⟨#[]⟩, .int .u8 0]) (bkU (cs := #[.int .i64 0, .int .i64 0, .string ⟨#[]⟩, .int .u8 0]) (bkR HA3.out.res hne2' _) 0 _ rfl) 1 _ rfl) 2 _ rfl) 3 _ rfl)
 refine ⟨rfl, ?_, ?_, ?_⟩
 ·refine IsS53.far (IsS53.far (IsS53.far (IsS53.far ?_ hne2 _) hne2 _) hne2 _) hne2 _
  exact HA3.out.st.set_0 _
 ·have hz : w0.heap.size ≤ w.heap.size + 1 := by have := HBS.out; omega
  exact bwS (bwS (bwS (bwS (bwS HA3.out.bel hge.out) hz) hz) hz) hz
 have hz : w.heap.size ≤ w.heap.size + 1 := by omega
 exact keep_far (keep_far (keep_far (keep_far (HA3.out.keep.set_ _ _) hz _) hz _) hz _) hz _

set_option maxHeartbeats 1000000 in
set_option maxRecDepth 100000 in
theorem key_single (k : Nat) (g : Nat) (s0_1 : Bool) (s0_2 : Int) (a1_0 : Int) (a1_1 : Int) (a1_2 : Bool) (a1_3 : Bool) (a1_4 : Bool) (a1_5 : ByteArray) (r1 r2 : Int) (r3 : ByteArray) (r4 : Int) (n1 : Int) (n2 : Bool) (w0 w : World) (hI : IsS53 w0 w g 0 s0_1 s0_2) (hB : Below w0.heap.size w0 w) (h : bind_Binder_digit.f 0 s0_1 s0_2 a1_0 a1_1 a1_2 a1_3 a1_4 a1_5 = some (false, 0, s0_1, s0_2)) (hp : bind_prefixOf.f k a1_0 a1_1 a1_2 a1_3 a1_4 a1_5 = some 0) (hs : bind_single.f k a1_0 a1_1 a1_2 a1_3 a1_4 a1_5 = some (r1, r2, r3, r4)) (hr : (r1 != 37) = true) (hc : bind_Binder_Count.f 0 s0_1 s0_2 = some (n1, n2, 0, s0_1, s0_2)) :
    Calls Try.prog 23 #[.pointer (some ⟨g, 0, none⟩), .agg #[.int .i64 a1_0, .int .i32 a1_1, .bool a1_2, .bool a1_3, .bool a1_4, .string a1_5]] w fun e w' => e = .returned (.tuple #[.agg #[.int .i64 r1, .int .i64 n1, .string r3, .int .u8 r4], .bool true]) ∧ IsS53 w0 w' g 0 false 0 ∧ Below w0.heap.size w0 w' ∧ KeepBut w w' g none := by
 have hlt := aM hI.lt
 have hge := aM hI.ge
 have HA := aM (KeyAt.start (a1_0 := a1_0) (a1_1 := a1_1) (a1_2 := a1_2) (a1_3 := a1_3) (a1_4 := a1_4) (a1_5 := a1_5) hI hB)
 have HBS := aM hB.size
 clear hI hB
 have H := aM h
 have HP := aM hp
 have HS := aM hs
 have HC := aM hc
 clear h hp hs hc
 have hne1 : g ≠ w.heap.size := by have := hlt.out; omega
 have hne2 : g ≠ w.heap.size + 1 := by have := hlt.out; omega
 have hne1' : w.heap.size ≠ g := by have := hlt.out; omega
 have hne2' : w.heap.size + 1 ≠ g := by have := hlt.out; omega
 go_enter Try.func23, Try.ntmps23
 go_wp2_with (first
  | (go_at_call 31; refine (bind_Binder_digit.calls g 0 s0_1 s0_2 a1_0 a1_1 a1_2 a1_3 a1_4 a1_5 false 0 s0_1 s0_2 w0 _ HA.1.st HA.1.bel H.out).mono ?_; rintro e w1 ⟨rfl, hI1, hB1, hK1⟩; have HA1 := aM (HA.1.call hlt.out hI1 hB1 hK1); clear hI1 hB1 hK1 HA H; have b0 : w1.cell? ⟨w.heap.size, 0, none⟩ = some (.int .i64 a1_0) := (bkC HA1.out.box 0).trans rfl; have b1 : w1.cell? ⟨w.heap.size, 1, none⟩ = some (.int .i32 a1_1) := (bkC HA1.out.box 1).trans rfl; have b2 : w1.cell? ⟨w.heap.size, 2, none⟩ = some (.bool a1_2) := (bkC HA1.out.box 2).trans rfl; have b3 : w1.cell? ⟨w.heap.size, 3, none⟩ = some (.bool a1_3) := (bkC HA1.out.box 3).trans rfl; have b4 : w1.cell? ⟨w.heap.size, 4, none⟩ = some (.bool a1_4) := (bkC HA1.out.box 4).trans rfl; have b5 : w1.cell? ⟨w.heap.size, 5, none⟩ = some (.string a1_5) := (bkC HA1.out.box 5).trans rfl; have c0 := cellS53_0 HA1.out.st.1; have f0 := bkF HA1.out.st.1 0; have c1 := cellS53_1 HA1.out.st.1; have f1 := bkF HA1.out.st.1 1; have c2 := cellS53_2 HA1.out.st.1; have f2 := bkF HA1.out.st.1 2)
  | (go_at_call 32; refine (bind_prefixOf.calls k a1_0 a1_1 a1_2 a1_3 a1_4 a1_5 0 _ HP.out).mono ?_; rintro e w2 ⟨rfl, hB2⟩; have HA2 := aM (HA1.out.quiet hB2); clear hB2 HA1; clear b0 b1 b2 b3 b4 b5 c0 f0 c1 f1 c2 f2; have b0 : w2.cell? ⟨w.heap.size, 0, none⟩ = some (.int .i64 a1_0) := (bkC HA2.out.box 0).trans rfl; have b1 : w2.cell? ⟨w.heap.size, 1, none⟩ = some (.int .i32 a1_1) := (bkC HA2.out.box 1).trans rfl; have b2 : w2.cell? ⟨w.heap.size, 2, none⟩ = some (.bool a1_2) := (bkC HA2.out.box 2).trans rfl; have b3 : w2.cell? ⟨w.heap.size, 3, none⟩ = some (.bool a1_3) := (bkC HA2.out.box 3).trans rfl; have b4 : w2.cell? ⟨w.heap.size, 4, none⟩ = some (.bool a1_4) := (bkC HA2.out.box 4).trans rfl; have b5 : w2.cell? ⟨w.heap.size, 5, none⟩ = some (.string a1_5) := (bkC HA2.out.box 5).trans rfl; have c0 := cellS53_0 HA2.out.st.1; have f0 := bkF HA2.out.st.1 0; have c1 := cellS53_1 HA2.out.st.1; have f1 := bkF HA2.out.st.1 1; have c2 := cellS53_2 HA2.out.st.1; have f2 := bkF HA2.out.st.1 2)
  | (go_at_call 33; (refine (bind_single.calls k a1_0 a1_1 a1_2 a1_3 a1_4 a1_5 r1 r2 r3 r4 _ HS.out).mono ?_; rintro e w4 ⟨rfl, hB2⟩; have HA4 := aM (HA2.out.quiet hB2); clear hB2 HA2 HS; clear b0 b1 b2 b3 b4 b5 c0 f0 c1 f1 c2 f2; have b0 : w4.cell? ⟨w.heap.size, 0, none⟩ = some (.int .i64 a1_0) := (bkC HA4.out.box 0).trans rfl; have b1 : w4.cell? ⟨w.heap.size, 1, none⟩ = some (.int .i32 a1_1) := (bkC HA4.out.box 1).trans rfl; have b2 : w4.cell? ⟨w.heap.size, 2, none⟩ = some (.bool a1_2) := (bkC HA4.out.box 2).trans rfl; have b3 : w4.cell? ⟨w.heap.size, 3, none⟩ = some (.bool a1_3) := (bkC HA4.out.box 3).trans rfl; have b4 : w4.cell? ⟨w.heap.size, 4, none⟩ = some (.bool a1_4) := (bkC HA4.out.box 4).trans rfl; have b5 : w4.cell? ⟨w.heap.size, 5, none⟩ = some (.string a1_5) := (bkC HA4.out.box 5).trans rfl; have c0 := cellS53_0 HA4.out.st.1; have f0 := bkF HA4.out.st.1 0; have c1 := cellS53_1 HA4.out.st.1; have f1 := bkF HA4.out.st.1 1; have c2 := cellS53_2 HA4.out.st.1; have f2 := bkF HA4.out.st.1 2; have hn3 : g ≠ w4.heap.size := Nat.ne_of_lt HA4.out.st.lt; have hn3' : w4.heap.size ≠ g := Nat.ne_of_gt HA4.out.st.lt; have hn5 : w.heap.size ≠ w4.heap.size := Nat.ne_of_lt (bkL HA4.out.box); have hn6 : w.heap.size + 1 ≠ w4.heap.size := Nat.ne_of_lt (bkL HA4.out.res); have p0 := fun (o : Obj) => (World.cell?_alloc_lt w4 o ⟨g, 0, none⟩ HA4.out.st.lt).trans c0; have q0 := fun (o : Obj) => (World.cell?_alloc_lt w4 o ⟨w.heap.size, 0, none⟩ (bkL HA4.out.box)).trans b0; have q1 := fun (o : Obj) => (World.cell?_alloc_lt w4 o ⟨w.heap.size, 1, none⟩ (bkL HA4.out.box)).trans b1; have q2 := fun (o : Obj) => (World.cell?_alloc_lt w4 o ⟨w.heap.size, 2, none⟩ (bkL HA4.out.box)).trans b2; have q3 := fun (o : Obj) => (World.cell?_alloc_lt w4 o ⟨w.heap.size, 3, none⟩ (bkL HA4.out.box)).trans b3; have q4 := fun (o : Obj) => (World.cell?_alloc_lt w4 o ⟨w.heap.size, 4, none⟩ (bkL HA4.out.box)).trans b4; have q5 := fun (o : Obj) => (World.cell?_alloc_lt w4 o ⟨w.heap.size, 5, none⟩ (bkL HA4.out.box)).trans b5))
  | (go_at_call 24; refine (bind_Binder_Count.calls g 0 s0_1 s0_2 n1 n2 0 s0_1 s0_2 w0 _ (by repeat (first | with_reducible exact HA4.out.st | refine IsS53.far ?_ hn3 _ | apply IsS53.alloc)) (by repeat (first | with_reducible exact HA4.out.bel | refine bwS ?_ (Nat.le_trans (HA4.out.bel.size) (Nat.le_refl _)) | apply bwA)) HC.out).mono ?_; rintro e w5 ⟨rfl, hI5, hB5, hK5⟩; clear p0 q0 q1 q2 q3 q4 q5; have HX := aM (hK5.blk (g' := w4.heap.size) (show _ = some (Obj.cells #[.int .i64 r1, .int .i64 r2, .string r3, .int .u8 r4] 36 (0, 0)) from (heap_alloc_new w4 _)) hn3' (by simp)); have HA5 := aM ((HA4.out.quiet (by repeat (first | with_reducible exact Below.refl _ _ | refine bwS ?_ (Nat.le_refl _) | apply bwA))).call hlt.out hI5 hB5 hK5); have hb4 := aM (show w4.heap.size < w5.heap.size from bkL HX.out); clear hI5 hB5 hK5 HC; clear b0 b1 b2 b3 b4 b5 c0 f0 c1 f1 c2 f2; have b0 : w5.cell? ⟨w.heap.size, 0, none⟩ = some (.int .i64 a1_0) := (bkC HA5.out.box 0).trans rfl; have b1 : w5.cell? ⟨w.heap.size, 1, none⟩ = some (.int .i32 a1_1) := (bkC HA5.out.box 1).trans rfl; have b2 : w5.cell? ⟨w.heap.size, 2, none⟩ = some (.bool a1_2) := (bkC HA5.out.box 2).trans rfl; have b3 : w5.cell? ⟨w.heap.size, 3, none⟩ = some (.bool a1_3) := (bkC HA5.out.box 3).trans rfl; have b4 : w5.cell? ⟨w.heap.size, 4, none⟩ = some (.bool a1_4) := (bkC HA5.out.box 4).trans rfl; have b5 : w5.cell? ⟨w.heap.size, 5, none⟩ = some (.string a1_5) := (bkC HA5.out.box 5).trans rfl; have c0 := cellS53_0 HA5.out.st.1; have f0 := bkF HA5.out.st.1 0; have c1 := cellS53_1 HA5.out.st.1; have f1 := bkF HA5.out.st.1 1; have c2 := cellS53_2 HA5.out.st.1; have f2 := bkF HA5.out.st.1 2; have x0 : w5.cell? ⟨w4.heap.size, 0, none⟩ = some (.int .i64 r1) := (bkC HX.out 0).trans rfl; have y0 := bkF HX.out 0; have x1 : w5.cell? ⟨w4.heap.size, 1, none⟩ = some (.int .i64 r2) := (bkC HX.out 1).trans rfl; have y1 := bkF HX.out 1; have x2 : w5.cell? ⟨w4.heap.size, 2, none⟩ = some (.string r3) := (bkC HX.out 2).trans rfl; have y2 := bkF HX.out 2; have x3 : w5.cell? ⟨w4.heap.size, 3, none⟩ = some (.int .u8 r4) := (bkC HX.out 3).trans rfl; have y3 := bkF HX.out 3)
  | (go_at_call 30; refine (bind_Binder_Reset.calls g 0 s0_1 s0_2 0 false 0 w0 _ (IsS53.far HA5.out.st hn3 _) (bwS HA5.out.bel (Nat.le_trans HA4.out.bel.size (Nat.le_refl _))) rfl).mono ?_; rintro e w6 ⟨rfl, hI5, hB5, hK5⟩; have HX6 := aM (hK5.blk (g' := w4.heap.size) (show _ = some (Obj.cells #[.int .i64 r1, .int .i64 n1, .string r3, .int .u8 r4] 36 (0, 0)) from (bkU (cs := #[.int .i64 r1, .int .i64 r2, .string r3, .int .u8 r4]) HX.out 1 _ rfl)) hn3' (by simp)); have HA6 := aM (((KeyAt.mk (IsS53.far HA5.out.st hn3 _) (bwS HA5.out.bel HA4.out.bel.size) (keep_far HA5.out.keep HA4.out.keep.1 _) (bkR HA5.out.box hn5 _) (bkR HA5.out.res hn6 _) : KeyAt _ _ _ _ _ _ _ _ _ _ _ _ _)).call hlt.out hI5 hB5 hK5); clear hI5 hB5 hK5; (try clear HX); have HX := HX6; clear HX6; clear b0 b1 b2 b3 b4 b5 c0 f0 c1 f1 c2 f2; (try (clear x0 y0 x1 y1 x2 y2 x3 y3)); have b0 : w6.cell? ⟨w.heap.size, 0, none⟩ = some (.int .i64 a1_0) := (bkC HA6.out.box 0).trans rfl; have b1 : w6.cell? ⟨w.heap.size, 1, none⟩ = some (.int .i32 a1_1) := (bkC HA6.out.box 1).trans rfl; have b2 : w6.cell? ⟨w.heap.size, 2, none⟩ = some (.bool a1_2) := (bkC HA6.out.box 2).trans rfl; have b3 : w6.cell? ⟨w.heap.size, 3, none⟩ = some (.bool a1_3) := (bkC HA6.out.box 3).trans rfl; have b4 : w6.cell? ⟨w.heap.size, 4, none⟩ = some (.bool a1_4) := (bkC HA6.out.box 4).trans rfl; have b5 : w6.cell? ⟨w.heap.size, 5, none⟩ = some (.string a1_5) := (bkC HA6.out.box 5).trans rfl; have c0 := cellS53_0 HA6.out.st.1; have f0 := bkF HA6.out.st.1 0; have c1 := cellS53_1 HA6.out.st.1; have f1 := bkF HA6.out.st.1 1; have c2 := cellS53_2 HA6.out.st.1; have f2 := bkF HA6.out.st.1 2; have x0 : w6.cell? ⟨w4.heap.size, 0, none⟩ = some (.int .i64 r1) := (bkC HX.out 0).trans rfl; have y0 := bkF HX.out 0; have x1 : w6.cell? ⟨w4.heap.size, 1, none⟩ = some (.int .i64 n1) := (bkC HX.out 1).trans rfl; have y1 := bkF HX.out 1; have x2 : w6.cell? ⟨w4.heap.size, 2, none⟩ = some (.string r3) := (bkC HX.out 2).trans rfl; have y2 := bkF HX.out 2; have x3 : w6.cell? ⟨w4.heap.size, 3, none⟩ = some (.int .u8 r4) := (bkC HX.out 3).trans rfl; have y3 := bkF HX.out 3; have d0 : w6.cell? ⟨w.heap.size + 1, 0, none⟩ = some (.int .i64 0) := (bkC HA6.out.res 0).trans rfl; have e0 := bkF HA6.out.res 0; have d1 : w6.cell? ⟨w.heap.size + 1, 1, none⟩ = some (.int .i64 0) := (bkC HA6.out.res 1).trans rfl; have e1 := bkF HA6.out.res 1; have d2 : w6.cell? ⟨w.heap.size + 1, 2, none⟩ = some (.string ⟨#[]⟩) := (bkC HA6.out.res 2).trans rfl; have e2 := bkF HA6.out.res 2; have d3 : w6.cell? ⟨w.heap.size + 1, 3, none⟩ = some (.int .u8 0) := (bkC HA6.out.res 3).trans rfl; have e3 := bkF HA6.out.res 3))
 refine bodyPost_ret (results_ct rfl _ _ (w.heap.size + 1) 36 #[.int .i64 r1, .int .i64 n1, .string r3, .int .u8 r4] (0, 0) _ rfl ?_ Try.underlying36 rfl (by kernel_rfl)) rfl ?_
 ·exact (bkU (cs := #[.int .i64 r1, .int .i64 n1, .string r3, .int .u8 0]) (bkU (cs := #[.int .i64 r1, .int .i64 n1, .string ⟨#[]⟩, .int .u8 0]) (bkU (cs := #[.int .i64 r1, .int .i64 0, .string ⟨#[]⟩, .int .u8 0]) (bkU (cs := #[.int .i64 0, .int .i64 0, .string ⟨#[]⟩, .int .u8 0]) HA6.out.res 0 _ rfl) 1 _ rfl) 2 _ rfl) 3 _ rfl)
 refine ⟨rfl, ?_, ?_, ?_⟩
 ·exact IsS53.far (IsS53.far (IsS53.far (IsS53.far HA6.out.st hne2 _) hne2 _) hne2 _) hne2 _
 ·have hz : w0.heap.size ≤ w.heap.size + 1 := by have := HBS.out; omega
  exact bwS (bwS (bwS (bwS HA6.out.bel hz) hz) hz) hz
 have hz : w.heap.size ≤ w.heap.size + 1 := by omega
 exact keep_far (keep_far (keep_far (keep_far HA6.out.keep hz _) hz _) hz _) hz _

set_option maxHeartbeats 1000000 in
set_option maxRecDepth 100000 in
theorem key_abort (k : Nat) (g : Nat) (s0_1 : Bool) (s0_2 : Int) (a1_0 : Int) (a1_1 : Int) (a1_2 : Bool) (a1_3 : Bool) (a1_4 : Bool) (a1_5 : ByteArray) (r1 r2 : Int) (r3 : ByteArray) (r4 : Int) (w0 w : World) (hI : IsS53 w0 w g 0 s0_1 s0_2) (hB : Below w0.heap.size w0 w) (h : bind_Binder_digit.f 0 s0_1 s0_2 a1_0 a1_1 a1_2 a1_3 a1_4 a1_5 = some (false, 0, s0_1, s0_2)) (hp : bind_prefixOf.f k a1_0 a1_1 a1_2 a1_3 a1_4 a1_5 = some 0) (hs : bind_single.f k a1_0 a1_1 a1_2 a1_3 a1_4 a1_5 = some (r1, r2, r3, r4)) (hr : (r1 != 37) = false) :
    Calls Try.prog 23 #[.pointer (some ⟨g, 0, none⟩), .agg #[.int .i64 a1_0, .int .i32 a1_1, .bool a1_2, .bool a1_3, .bool a1_4, .string a1_5]] w fun e w' => e = .returned (.tuple #[.agg #[.int .i64 r1, .int .i64 r2, .string r3, .int .u8 r4], .bool true]) ∧ IsS53 w0 w' g 0 false 0 ∧ Below w0.heap.size w0 w' ∧ KeepBut w w' g none := by
 have hlt := aM hI.lt
 have hge := aM hI.ge
 have HA := aM (KeyAt.start (a1_0 := a1_0) (a1_1 := a1_1) (a1_2 := a1_2) (a1_3 := a1_3) (a1_4 := a1_4) (a1_5 := a1_5) hI hB)
 have HBS := aM hB.size
 clear hI hB
 have H := aM h
 have HP := aM hp
 have HS := aM hs
 clear h hp hs
 have hne1 : g ≠ w.heap.size := by have := hlt.out; omega
 have hne2 : g ≠ w.heap.size + 1 := by have := hlt.out; omega
 have hne1' : w.heap.size ≠ g := by have := hlt.out; omega
 have hne2' : w.heap.size + 1 ≠ g := by have := hlt.out; omega
 go_enter Try.func23, Try.ntmps23
 go_wp2_with (first
  | (go_at_call 31; refine (bind_Binder_digit.calls g 0 s0_1 s0_2 a1_0 a1_1 a1_2 a1_3 a1_4 a1_5 false 0 s0_1 s0_2 w0 _ HA.1.st HA.1.bel H.out).mono ?_; rintro e w1 ⟨rfl, hI1, hB1, hK1⟩; have HA1 := aM (HA.1.call hlt.out hI1 hB1 hK1); clear hI1 hB1 hK1 HA H; have b0 : w1.cell? ⟨w.heap.size, 0, none⟩ = some (.int .i64 a1_0) := (bkC HA1.out.box 0).trans rfl; have b1 : w1.cell? ⟨w.heap.size, 1, none⟩ = some (.int .i32 a1_1) := (bkC HA1.out.box 1).trans rfl; have b2 : w1.cell? ⟨w.heap.size, 2, none⟩ = some (.bool a1_2) := (bkC HA1.out.box 2).trans rfl; have b3 : w1.cell? ⟨w.heap.size, 3, none⟩ = some (.bool a1_3) := (bkC HA1.out.box 3).trans rfl; have b4 : w1.cell? ⟨w.heap.size, 4, none⟩ = some (.bool a1_4) := (bkC HA1.out.box 4).trans rfl; have b5 : w1.cell? ⟨w.heap.size, 5, none⟩ = some (.string a1_5) := (bkC HA1.out.box 5).trans rfl; have c0 := cellS53_0 HA1.out.st.1; have f0 := bkF HA1.out.st.1 0; have c1 := cellS53_1 HA1.out.st.1; have f1 := bkF HA1.out.st.1 1; have c2 := cellS53_2 HA1.out.st.1; have f2 := bkF HA1.out.st.1 2)
  | (go_at_call 32; refine (bind_prefixOf.calls k a1_0 a1_1 a1_2 a1_3 a1_4 a1_5 0 _ HP.out).mono ?_; rintro e w2 ⟨rfl, hB2⟩; have HA2 := aM (HA1.out.quiet hB2); clear hB2 HA1; clear b0 b1 b2 b3 b4 b5 c0 f0 c1 f1 c2 f2; have b0 : w2.cell? ⟨w.heap.size, 0, none⟩ = some (.int .i64 a1_0) := (bkC HA2.out.box 0).trans rfl; have b1 : w2.cell? ⟨w.heap.size, 1, none⟩ = some (.int .i32 a1_1) := (bkC HA2.out.box 1).trans rfl; have b2 : w2.cell? ⟨w.heap.size, 2, none⟩ = some (.bool a1_2) := (bkC HA2.out.box 2).trans rfl; have b3 : w2.cell? ⟨w.heap.size, 3, none⟩ = some (.bool a1_3) := (bkC HA2.out.box 3).trans rfl; have b4 : w2.cell? ⟨w.heap.size, 4, none⟩ = some (.bool a1_4) := (bkC HA2.out.box 4).trans rfl; have b5 : w2.cell? ⟨w.heap.size, 5, none⟩ = some (.string a1_5) := (bkC HA2.out.box 5).trans rfl; have c0 := cellS53_0 HA2.out.st.1; have f0 := bkF HA2.out.st.1 0; have c1 := cellS53_1 HA2.out.st.1; have f1 := bkF HA2.out.st.1 1; have c2 := cellS53_2 HA2.out.st.1; have f2 := bkF HA2.out.st.1 2)
  | (go_at_call 33; (refine (bind_single.calls k a1_0 a1_1 a1_2 a1_3 a1_4 a1_5 r1 r2 r3 r4 _ HS.out).mono ?_; rintro e w4 ⟨rfl, hB2⟩; have HA4 := aM (HA2.out.quiet hB2); clear hB2 HA2 HS; clear b0 b1 b2 b3 b4 b5 c0 f0 c1 f1 c2 f2; have b0 : w4.cell? ⟨w.heap.size, 0, none⟩ = some (.int .i64 a1_0) := (bkC HA4.out.box 0).trans rfl; have b1 : w4.cell? ⟨w.heap.size, 1, none⟩ = some (.int .i32 a1_1) := (bkC HA4.out.box 1).trans rfl; have b2 : w4.cell? ⟨w.heap.size, 2, none⟩ = some (.bool a1_2) := (bkC HA4.out.box 2).trans rfl; have b3 : w4.cell? ⟨w.heap.size, 3, none⟩ = some (.bool a1_3) := (bkC HA4.out.box 3).trans rfl; have b4 : w4.cell? ⟨w.heap.size, 4, none⟩ = some (.bool a1_4) := (bkC HA4.out.box 4).trans rfl; have b5 : w4.cell? ⟨w.heap.size, 5, none⟩ = some (.string a1_5) := (bkC HA4.out.box 5).trans rfl; have c0 := cellS53_0 HA4.out.st.1; have f0 := bkF HA4.out.st.1 0; have c1 := cellS53_1 HA4.out.st.1; have f1 := bkF HA4.out.st.1 1; have c2 := cellS53_2 HA4.out.st.1; have f2 := bkF HA4.out.st.1 2; have hn3 : g ≠ w4.heap.size := Nat.ne_of_lt HA4.out.st.lt; have hn3' : w4.heap.size ≠ g := Nat.ne_of_gt HA4.out.st.lt; have hn5 : w.heap.size ≠ w4.heap.size := Nat.ne_of_lt (bkL HA4.out.box); have hn6 : w.heap.size + 1 ≠ w4.heap.size := Nat.ne_of_lt (bkL HA4.out.res); have p0 := fun (o : Obj) => (World.cell?_alloc_lt w4 o ⟨g, 0, none⟩ HA4.out.st.lt).trans c0; have q0 := fun (o : Obj) => (World.cell?_alloc_lt w4 o ⟨w.heap.size, 0, none⟩ (bkL HA4.out.box)).trans b0; have q1 := fun (o : Obj) => (World.cell?_alloc_lt w4 o ⟨w.heap.size, 1, none⟩ (bkL HA4.out.box)).trans b1; have q2 := fun (o : Obj) => (World.cell?_alloc_lt w4 o ⟨w.heap.size, 2, none⟩ (bkL HA4.out.box)).trans b2; have q3 := fun (o : Obj) => (World.cell?_alloc_lt w4 o ⟨w.heap.size, 3, none⟩ (bkL HA4.out.box)).trans b3; have q4 := fun (o : Obj) => (World.cell?_alloc_lt w4 o ⟨w.heap.size, 4, none⟩ (bkL HA4.out.box)).trans b4; have q5 := fun (o : Obj) => (World.cell?_alloc_lt w4 o ⟨w.heap.size, 5, none⟩ (bkL HA4.out.box)).trans b5))
  | (go_at_call 30; refine (bind_Binder_Reset.calls g 0 s0_1 s0_2 0 false 0 w0 _ (by repeat (first | with_reducible exact HA4.out.st | refine IsS53.far ?_ hn3 _ | apply IsS53.alloc)) (by repeat (first | with_reducible exact HA4.out.bel | refine bwS ?_ HA4.out.bel.size | apply bwA)) rfl).mono ?_; rintro e w6 ⟨rfl, hI5, hB5, hK5⟩; clear p0 q0 q1 q2 q3 q4 q5; have HX := aM (hK5.blk (g' := w4.heap.size) (show _ = some (Obj.cells #[.int .i64 r1, .int .i64 r2, .string r3, .int .u8 r4] 36 (0, 0)) from (heap_alloc_new w4 _)) hn3' (by simp)); have HA6 := aM ((HA4.out.quiet (by repeat (first | with_reducible exact Below.refl _ _ | refine bwS ?_ (Nat.le_refl _) | apply bwA))).call hlt.out hI5 hB5 hK5); clear hI5 hB5 hK5; clear b0 b1 b2 b3 b4 b5 c0 f0 c1 f1 c2 f2; have b0 : w6.cell? ⟨w.heap.size, 0, none⟩ = some (.int .i64 a1_0) := (bkC HA6.out.box 0).trans rfl; have b1 : w6.cell? ⟨w.heap.size, 1, none⟩ = some (.int .i32 a1_1) := (bkC HA6.out.box 1).trans rfl; have b2 : w6.cell? ⟨w.heap.size, 2, none⟩ = some (.bool a1_2) := (bkC HA6.out.box 2).trans rfl; have b3 : w6.cell? ⟨w.heap.size, 3, none⟩ = some (.bool a1_3) := (bkC HA6.out.box 3).trans rfl; have b4 : w6.cell? ⟨w.heap.size, 4, none⟩ = some (.bool a1_4) := (bkC HA6.out.box 4).trans rfl; have b5 : w6.cell? ⟨w.heap.size, 5, none⟩ = some (.string a1_5) := (bkC HA6.out.box 5).trans rfl; have c0 := cellS53_0 HA6.out.st.1; have f0 := bkF HA6.out.st.1 0; have c1 := cellS53_1 HA6.out.st.1; have f1 := bkF HA6.out.st.1 1; have c2 := cellS53_2 HA6.out.st.1; have f2 := bkF HA6.out.st.1 2; have x0 : w6.cell? ⟨w4.heap.size, 0, none⟩ = some (.int .i64 r1) := (bkC HX.out 0).trans rfl; have y0 := bkF HX.out 0; have x1 : w6.cell? ⟨w4.heap.size, 1, none⟩ = some (.int .i64 r2) := (bkC HX.out 1).trans rfl; have y1 := bkF HX.out 1; have x2 : w6.cell? ⟨w4.heap.size, 2, none⟩ = some (.string r3) := (bkC HX.out 2).trans rfl; have y2 := bkF HX.out 2; have x3 : w6.cell? ⟨w4.heap.size, 3, none⟩ = some (.int .u8 r4) := (bkC HX.out 3).trans rfl; have y3 := bkF HX.out 3; have d0 : w6.cell? ⟨w.heap.size + 1, 0, none⟩ = some (.int .i64 0) := (bkC HA6.out.res 0).trans rfl; have e0 := bkF HA6.out.res 0; have d1 : w6.cell? ⟨w.heap.size + 1, 1, none⟩ = some (.int .i64 0) := (bkC HA6.out.res 1).trans rfl; have e1 := bkF HA6.out.res 1; have d2 : w6.cell? ⟨w.heap.size + 1, 2, none⟩ = some (.string ⟨#[]⟩) := (bkC HA6.out.res 2).trans rfl; have e2 := bkF HA6.out.res 2; have d3 : w6.cell? ⟨w.heap.size + 1, 3, none⟩ = some (.int .u8 0) := (bkC HA6.out.res 3).trans rfl; have e3 := bkF HA6.out.res 3))
 refine bodyPost_ret (results_ct rfl _ _ (w.heap.size + 1) 36 #[.int .i64 r1, .int .i64 r2, .string r3, .int .u8 r4] (0, 0) _ rfl ?_ Try.underlying36 rfl (by kernel_rfl)) rfl ?_
 ·exact (bkU (cs := #[.int .i64 r1, .int .i64 r2, .string r3, .int .u8 0]) (bkU (cs := #[.int .i64 r1, .int .i64 r2, .string ⟨#[]⟩, .int .u8 0]) (bkU (cs := #[.int .i64 r1, .int .i64 0, .string ⟨#[]⟩, .int .u8 0]) (bkU (cs := #[.int .i64 0, .int .i64 0, .string ⟨#[]⟩, .int .u8 0]) HA6.out.res 0 _ rfl) 1 _ rfl) 2 _ rfl) 3 _ rfl)
 refine ⟨rfl, ?_, ?_, ?_⟩
 ·exact IsS53.far (IsS53.far (IsS53.far (IsS53.far HA6.out.st hne2 _) hne2 _) hne2 _) hne2 _
 ·have hz : w0.heap.size ≤ w.heap.size + 1 := by have := HBS.out; omega
  exact bwS (bwS (bwS (bwS HA6.out.bel hz) hz) hz) hz
 have hz : w.heap.size ≤ w.heap.size + 1 := by omega
 exact keep_far (keep_far (keep_far (keep_far HA6.out.keep hz _) hz _) hz _) hz _

set_option maxHeartbeats 1000000 in
set_option maxRecDepth 100000 in
theorem key_second (k : Nat) (g : Nat) (s0_0 : Int) (s0_1 : Bool) (s0_2 : Int) (a1_0 : Int) (a1_1 : Int) (a1_2 : Bool) (a1_3 : Bool) (a1_4 : Bool) (a1_5 : ByteArray) (t1 t2 : Int) (t3 : ByteArray) (t4 : Int) (r1 r2 : Int) (r3 : ByteArray) (r4 : Int) (n1 : Int) (n2 : Bool) (w0 w : World) (hI : IsS53 w0 w g s0_0 s0_1 s0_2) (hB : Below w0.heap.size w0 w) (h : bind_Binder_digit.f s0_0 s0_1 s0_2 a1_0 a1_1 a1_2 a1_3 a1_4 a1_5 = some (false, s0_0, s0_1, s0_2)) (hz : (s0_0 == 0) = false) (hz' : (s0_0 != 0) = true) (hs : bind_single.f k a1_0 a1_1 a1_2 a1_3 a1_4 a1_5 = some (t1, t2, t3, t4)) (hs2 : bind_second.f k s0_0 a1_0 a1_1 a1_2 a1_3 a1_4 a1_5 = some (r1, r2, r3, r4)) (hr : (r1 != 37) = true) (hc : bind_Binder_Count.f s0_0 s0_1 s0_2 = some (n1, n2, s0_0, s0_1, s0_2)) :
    Calls Try.prog 23 #[.pointer (some ⟨g, 0, none⟩), .agg #[.int .i64 a1_0, .int .i32 a1_1, .bool a1_2, .bool a1_3, .bool a1_4, .string a1_5]] w fun e w' => e = .returned (.tuple #[.agg #[.int .i64 r1, .int .i64 n1, .string r3, .int .u8 r4], .bool true]) ∧ IsS53 w0 w' g 0 false 0 ∧ Below w0.heap.size w0 w' ∧ KeepBut w w' g none := by
 have hlt := aM hI.lt
 have hge := aM hI.ge
 have HA := aM (KeyAt.start (a1_0 := a1_0) (a1_1 := a1_1) (a1_2 := a1_2) (a1_3 := a1_3) (a1_4 := a1_4) (a1_5 := a1_5) hI hB)
 have HBS := aM hB.size
 clear hI hB
 have H := aM h
 have HS := aM hs
 have HS2 := aM hs2
 have HC := aM hc
 clear h hs hs2 hc
 have hne1 : g ≠ w.heap.size := by have := hlt.out; omega
 have hne2 : g ≠ w.heap.size + 1 := by have := hlt.out; omega
 have hne1' : w.heap.size ≠ g := by have := hlt.out; omega
 have hne2' : w.heap.size + 1 ≠ g := by have := hlt.out; omega
 go_enter Try.func23, Try.ntmps23
 go_wp2_with (first
  | (go_at_call 31; refine (bind_Binder_digit.calls g s0_0 s0_1 s0_2 a1_0 a1_1 a1_2 a1_3 a1_4 a1_5 false s0_0 s0_1 s0_2 w0 _ HA.1.st HA.1.bel H.out).mono ?_; rintro e w1 ⟨rfl, hI1, hB1, hK1⟩; have HA1 := aM (HA.1.call hlt.out hI1 hB1 hK1); clear hI1 hB1 hK1 HA H; have b0 : w1.cell? ⟨w.heap.size, 0, none⟩ = some (.int .i64 a1_0) := (bkC HA1.out.box 0).trans rfl; have b1 : w1.cell? ⟨w.heap.size, 1, none⟩ = some (.int .i32 a1_1) := (bkC HA1.out.box 1).trans rfl; have b2 : w1.cell? ⟨w.heap.size, 2, none⟩ = some (.bool a1_2) := (bkC HA1.out.box 2).trans rfl; have b3 : w1.cell? ⟨w.heap.size, 3, none⟩ = some (.bool a1_3) := (bkC HA1.out.box 3).trans rfl; have b4 : w1.cell? ⟨w.heap.size, 4, none⟩ = some (.bool a1_4) := (bkC HA1.out.box 4).trans rfl; have b5 : w1.cell? ⟨w.heap.size, 5, none⟩ = some (.string a1_5) := (bkC HA1.out.box 5).trans rfl; have c0 := cellS53_0 HA1.out.st.1; have f0 := bkF HA1.out.st.1 0; have c1 := cellS53_1 HA1.out.st.1; have f1 := bkF HA1.out.st.1 1; have c2 := cellS53_2 HA1.out.st.1; have f2 := bkF HA1.out.st.1 2)
  | (go_at_call 33; (refine (bind_single.calls k a1_0 a1_1 a1_2 a1_3 a1_4 a1_5 t1 t2 t3 t4 _ HS.out).mono ?_; rintro e w4 ⟨rfl, hB2⟩; have HA4 := aM (HA1.out.quiet hB2); clear hB2 HA1 HS; clear b0 b1 b2 b3 b4 b5 c0 f0 c1 f1 c2 f2; have b0 : w4.cell? ⟨w.heap.size, 0, none⟩ = some (.int .i64 a1_0) := (bkC HA4.out.box 0).trans rfl; have b1 : w4.cell? ⟨w.heap.size, 1, none⟩ = some (.int .i32 a1_1) := (bkC HA4.out.box 1).trans rfl; have b2 : w4.cell? ⟨w.heap.size, 2, none⟩ = some (.bool a1_2) := (bkC HA4.out.box 2).trans rfl; have b3 : w4.cell? ⟨w.heap.size, 3, none⟩ = some (.bool a1_3) := (bkC HA4.out.box 3).trans rfl; have b4 : w4.cell? ⟨w.heap.size, 4, none⟩ = some (.bool a1_4) := (bkC HA4.out.box 4).trans rfl; have b5 : w4.cell? ⟨w.heap.size, 5, none⟩ = some (.string a1_5) := (bkC HA4.out.box 5).trans rfl; have c0 := cellS53_0 HA4.out.st.1; have f0 := bkF HA4.out.st.1 0; have c1 := cellS53_1 HA4.out.st.1; have f1 := bkF HA4.out.st.1 1; have c2 := cellS53_2 HA4.out.st.1; have f2 := bkF HA4.out.st.1 2; have hn3 : g ≠ w4.heap.size := Nat.ne_of_lt HA4.out.st.lt; have hn3' : w4.heap.size ≠ g := Nat.ne_of_gt HA4.out.st.lt; have hn5 : w.heap.size ≠ w4.heap.size := Nat.ne_of_lt (bkL HA4.out.box); have hn6 : w.heap.size + 1 ≠ w4.heap.size := Nat.ne_of_lt (bkL HA4.out.res); have p0 := fun (o : Obj) => (World.cell?_alloc_lt w4 o ⟨g, 0, none⟩ HA4.out.st.lt).trans c0; have q0 := fun (o : Obj) => (World.cell?_alloc_lt w4 o ⟨w.heap.size, 0, none⟩ (bkL HA4.out.box)).trans b0; have q1 := fun (o : Obj) => (World.cell?_alloc_lt w4 o ⟨w.heap.size, 1, none⟩ (bkL HA4.out.box)).trans b1; have q2 := fun (o : Obj) => (World.cell?_alloc_lt w4 o ⟨w.heap.size, 2, none⟩ (bkL HA4.out.box)).trans b2; have q3 := fun (o : Obj) => (World.cell?_alloc_lt w4 o ⟨w.heap.size, 3, none⟩ (bkL HA4.out.box)).trans b3; have q4 := fun (o : Obj) => (World.cell?_alloc_lt w4 o ⟨w.heap.size, 4, none⟩ (bkL HA4.out.box)).trans b4; have q5 := fun (o : Obj) => (World.cell?_alloc_lt w4 o ⟨w.heap.size, 5, none⟩ (bkL HA4.out.box)).trans b5)))
 refine wp_region_still_tail 5 (by kernel_rfl) (by kernel_rfl) ?_
 simp only [List.take_succ_cons, List.take_zero, List.drop_succ_cons, List.drop_zero]
 change wpStill _ _ (World.drew (w4.alloc (.cells #[.int .i64 t1, .int .i64 t2, .string t3, .int .u8 t4] 36))) (fun a' => wpList _ _ _ _ a' (World.drew (w4.alloc (.cells #[.int .i64 t1, .int .i64 t2, .string t3, .int .u8 t4] 36)))) _ _
 have hT : (World.drew (w4.alloc (.cells #[.int .i64 t1, .int .i64 t2, .string t3, .int .u8 t4] 36))).heap[w4.heap.size]? = some (.cells #[.int .i64 t1, .int .i64 t2, .string t3, .int .u8 t4] 36 (0, 0)) := heap_alloc_new w4 _
 have hAT : KeyAt w0 w (World.drew (w4.alloc (.cells #[.int .i64 t1, .int .i64 t2, .string t3, .int .u8 t4] 36))) g s0_0 s0_1 s0_2 a1_0 a1_1 a1_2 a1_3 a1_4 a1_5 := HA4.out.quiet ((Below.refl _ _).alloc (Nat.le_refl _) _).drew
 generalize World.drew (w4.alloc (.cells #[.int .i64 t1, .int .i64 t2, .string t3, .int .u8 t4] 36)) = wT at hT hAT ⊢
 have HT := aM hT
 have HAT := aM hAT
 clear hT hAT p0 q0 q1 q2 q3 q4 q5 b0 b1 b2 b3 b4 b5 c0 f0 c1 f1 c2 f2
 have b0 : wT.cell? ⟨w.heap.size, 0, none⟩ = some (.int .i64 a1_0) := (bkC HAT.out.box 0).trans rfl
 have b1 : wT.cell? ⟨w.heap.size, 1, none⟩ = some (.int .i32 a1_1) := (bkC HAT.out.box 1).trans rfl
 have b2 : wT.cell? ⟨w.heap.size, 2, none⟩ = some (.bool a1_2) := (bkC HAT.out.box 2).trans rfl
 have b3 : wT.cell? ⟨w.heap.size, 3, none⟩ = some (.bool a1_3) := (bkC HAT.out.box 3).trans rfl
 have b4 : wT.cell? ⟨w.heap.size, 4, none⟩ = some (.bool a1_4) := (bkC HAT.out.box 4).trans rfl
 have b5 : wT.cell? ⟨w.heap.size, 5, none⟩ = some (.string a1_5) := (bkC HAT.out.box 5).trans rfl
 have c0 := cellS53_0 HAT.out.st.1
 have f0 := bkF HAT.out.st.1 0
 have c1 := cellS53_1 HAT.out.st.1
 have f1 := bkF HAT.out.st.1 1
 have c2 := cellS53_2 HAT.out.st.1
 have f2 := bkF HAT.out.st.1 2
 repeat still_step
 refine wpStill_nil ?_
 go_wp2_with (first
  | (go_at_call 34; refine (bind_second.calls k s0_0 a1_0 a1_1 a1_2 a1_3 a1_4 a1_5 r1 r2 r3 r4 _ HS2.out).mono ?_; rintro e w7 ⟨rfl, hB7⟩; have HX := aM (bkB HT.out hB7); have HA7 := aM (HAT.out.quiet hB7); have hn7 := aM (bkL HX.out); clear hB7 HT HAT HS2; clear b0 b1 b2 b3 b4 b5 c0 f0 c1 f1 c2 f2; have b0 : w7.cell? ⟨w.heap.size, 0, none⟩ = some (.int .i64 a1_0) := (bkC HA7.out.box 0).trans rfl; have b1 : w7.cell? ⟨w.heap.size, 1, none⟩ = some (.int .i32 a1_1) := (bkC HA7.out.box 1).trans rfl; have b2 : w7.cell? ⟨w.heap.size, 2, none⟩ = some (.bool a1_2) := (bkC HA7.out.box 2).trans rfl; have b3 : w7.cell? ⟨w.heap.size, 3, none⟩ = some (.bool a1_3) := (bkC HA7.out.box 3).trans rfl; have b4 : w7.cell? ⟨w.heap.size, 4, none⟩ = some (.bool a1_4) := (bkC HA7.out.box 4).trans rfl; have b5 : w7.cell? ⟨w.heap.size, 5, none⟩ = some (.string a1_5) := (bkC HA7.out.box 5).trans rfl; have c0 := cellS53_0 HA7.out.st.1; have f0 := bkF HA7.out.st.1 0; have c1 := cellS53_1 HA7.out.st.1; have f1 := bkF HA7.out.st.1 1; have c2 := cellS53_2 HA7.out.st.1; have f2 := bkF HA7.out.st.1 2; have x0 : w7.cell? ⟨w4.heap.size, 0, none⟩ = some (.int .i64 t1) := (bkC HX.out 0).trans rfl; have y0 := bkF HX.out 0; have x1 : w7.cell? ⟨w4.heap.size, 1, none⟩ = some (.int .i64 t2) := (bkC HX.out 1).trans rfl; have y1 := bkF HX.out 1; have x2 : w7.cell? ⟨w4.heap.size, 2, none⟩ = some (.string t3) := (bkC HX.out 2).trans rfl; have y2 := bkF HX.out 2; have x3 : w7.cell? ⟨w4.heap.size, 3, none⟩ = some (.int .u8 t4) := (bkC HX.out 3).trans rfl; have y3 := bkF HX.out 3)
  | (go_at_call 24; refine (bind_Binder_Count.calls g s0_0 s0_1 s0_2 n1 n2 s0_0 s0_1 s0_2 w0 _ (by repeat (first | with_reducible exact HA7.out.st | refine IsS53.far ?_ hn3 _ )) (by repeat (first | with_reducible exact HA7.out.bel | refine bwS ?_ HA4.out.bel.size)) HC.out).mono ?_; rintro e w5 ⟨rfl, hI5, hB5, hK5⟩; have HX5 := aM (hK5.blk (g' := w4.heap.size) (show _ = some (Obj.cells #[.int .i64 r1, .int .i64 r2, .string r3, .int .u8 r4] 36 (0, 0)) from (bkU (cs := #[.int .i64 r1, .int .i64 r2, .string r3, .int .u8 t4]) (bkU (cs := #[.int .i64 r1, .int .i64 r2, .string t3, .int .u8 t4]) (bkU (cs := #[.int .i64 r1, .int .i64 t2, .string t3, .int .u8 t4]) (bkU (cs := #[.int .i64 t1, .int .i64 t2, .string t3, .int .u8 t4]) HX.out 0 _ rfl) 1 _ rfl) 2 _ rfl) 3 _ rfl)) hn3' (by simp)); have HA5 := aM ((KeyAt.four HA7.out HA4.out.bel.size HA4.out.keep.1 hn3 hn5 hn6 _ _ _ _).call hlt.out hI5 hB5 hK5); clear hI5 hB5 hK5 HC HX; have HX := HX5; clear HX5; clear b0 b1 b2 b3 b4 b5 c0 f0 c1 f1 c2 f2; clear x0 y0 x1 y1 x2 y2 x3 y3; have b0 : w5.cell? ⟨w.heap.size, 0, none⟩ = some (.int .i64 a1_0) := (bkC HA5.out.box 0).trans rfl; have b1 : w5.cell? ⟨w.heap.size, 1, none⟩ = some (.int .i32 a1_1) := (bkC HA5.out.box 1).trans rfl; have b2 : w5.cell? ⟨w.heap.size, 2, none⟩ = some (.bool a1_2) := (bkC HA5.out.box 2).trans rfl; have b3 : w5.cell? ⟨w.heap.size, 3, none⟩ = some (.bool a1_3) := (bkC HA5.out.box 3).trans rfl; have b4 : w5.cell? ⟨w.heap.size, 4, none⟩ = some (.bool a1_4) := (bkC HA5.out.box 4).trans rfl; have b5 : w5.cell? ⟨w.heap.size, 5, none⟩ = some (.string a1_5) := (bkC HA5.out.box 5).trans rfl; have c0 := cellS53_0 HA5.out.st.1; have f0 := bkF HA5.out.st.1 0; have c1 := cellS53_1 HA5.out.st.1; have f1 := bkF HA5.out.st.1 1; have c2 := cellS53_2 HA5.out.st.1; have f2 := bkF HA5.out.st.1 2; have x0 : w5.cell? ⟨w4.heap.size, 0, none⟩ = some (.int .i64 r1) := (bkC HX.out 0).trans rfl; have y0 := bkF HX.out 0; have x1 : w5.cell? ⟨w4.heap.size, 1, none⟩ = some (.int .i64 r2) := (bkC HX.out 1).trans rfl; have y1 := bkF HX.out 1; have x2 : w5.cell? ⟨w4.heap.size, 2, none⟩ = some (.string r3) := (bkC HX.out 2).trans rfl; have y2 := bkF HX.out 2; have x3 : w5.cell? ⟨w4.heap.size, 3, none⟩ = some (.int .u8 r4) := (bkC HX.out 3).trans rfl; have y3 := bkF HX.out 3)
  | (go_at_call 30; refine (bind_Binder_Reset.calls g s0_0 s0_1 s0_2 0 false 0 w0 _ (IsS53.far HA5.out.st hn3 _) (bwS HA5.out.bel (Nat.le_trans HA4.out.bel.size (Nat.le_refl _))) rfl).mono ?_; rintro e w6 ⟨rfl, hI5, hB5, hK5⟩; have HX6 := aM (hK5.blk (g' := w4.heap.size) (show _ = some (Obj.cells #[.int .i64 r1, .int .i64 n1, .string r3, .int .u8 r4] 36 (0, 0)) from (bkU (cs := #[.int .i64 r1, .int .i64 r2, .string r3, .int .u8 r4]) HX.out 1 _ rfl)) hn3' (by simp)); have HA6 := aM (((KeyAt.far HA5.out HA4.out.bel.size HA4.out.keep.1 hn3 hn5 hn6 _ _)).call hlt.out hI5 hB5 hK5); clear hI5 hB5 hK5; (try clear HX); have HX := HX6; clear HX6; clear b0 b1 b2 b3 b4 b5 c0 f0 c1 f1 c2 f2; (try (clear x0 y0 x1 y1 x2 y2 x3 y3)); have b0 : w6.cell? ⟨w.heap.size, 0, none⟩ = some (.int .i64 a1_0) := (bkC HA6.out.box 0).trans rfl; have b1 : w6.cell? ⟨w.heap.size, 1, none⟩ = some (.int .i32 a1_1) := (bkC HA6.out.box 1).trans rfl; have b2 : w6.cell? ⟨w.heap.size, 2, none⟩ = some (.bool a1_2) := (bkC HA6.out.box 2).trans rfl; have b3 : w6.cell? ⟨w.heap.size, 3, none⟩ = some (.bool a1_3) := (bkC HA6.out.box 3).trans rfl; have b4 : w6.cell? ⟨w.heap.size, 4, none⟩ = some (.bool a1_4) := (bkC HA6.out.box 4).trans rfl; have b5 : w6.cell? ⟨w.heap.size, 5, none⟩ = some (.string a1_5) := (bkC HA6.out.box 5).trans rfl; have c0 := cellS53_0 HA6.out.st.1; have f0 := bkF HA6.out.st.1 0; have c1 := cellS53_1 HA6.out.st.1; have f1 := bkF HA6.out.st.1 1; have c2 := cellS53_2 HA6.out.st.1; have f2 := bkF HA6.out.st.1 2; have x0 : w6.cell? ⟨w4.heap.size, 0, none⟩ = some (.int .i64 r1) := (bkC HX.out 0).trans rfl; have y0 := bkF HX.out 0; have x1 : w6.cell? ⟨w4.heap.size, 1, none⟩ = some (.int .i64 n1) := (bkC HX.out 1).trans rfl; have y1 := bkF HX.out 1; have x2 : w6.cell? ⟨w4.heap.size, 2, none⟩ = some (.string r3) := (bkC HX.out 2).trans rfl; have y2 := bkF HX.out 2; have x3 : w6.cell? ⟨w4.heap.size, 3, none⟩ = some (.int .u8 r4) := (bkC HX.out 3).trans rfl; have y3 := bkF HX.out 3; have d0 : w6.cell? ⟨w.heap.size + 1, 0, none⟩ = some (.int .i64 0) := (bkC HA6.out.res 0).trans rfl; have e0 := bkF HA6.out.res 0; have d1 : w6.cell? ⟨w.heap.size + 1, 1, none⟩ = some (.int .i64 0) := (bkC HA6.out.res 1).trans rfl; have e1 := bkF HA6.out.res 1; have d2 : w6.cell? ⟨w.heap.size + 1, 2, none⟩ = some (.string ⟨#[]⟩) := (bkC HA6.out.res 2).trans rfl; have e2 := bkF HA6.out.res 2; have d3 : w6.cell? ⟨w.heap.size + 1, 3, none⟩ = some (.int .u8 0) := (bkC HA6.out.res 3).trans rfl; have e3 := bkF HA6.out.res 3))
 refine bodyPost_ret (results_ct rfl _ _ (w.heap.size + 1) 36 #[.int .i64 r1, .int .i64 n1, .string r3, .int .u8 r4] (0, 0) _ rfl ?_ Try.underlying36 rfl (by kernel_rfl)) rfl ?_
 ·exact (bkU (cs := #[.int .i64 r1, .int .i64 n1, .string r3, .int .u8 0]) (bkU (cs := #[.int .i64 r1, .int .i64 n1, .string ⟨#[]⟩, .int .u8 0]) (bkU (cs := #[.int .i64 r1, .int .i64 0, .string ⟨#[]⟩, .int .u8 0]) (bkU (cs := #[.int .i64 0, .int .i64 0, .string ⟨#[]⟩, .int .u8 0]) HA6.out.res 0 _ rfl) 1 _ rfl) 2 _ rfl) 3 _ rfl)
 refine ⟨rfl, ?_, ?_, ?_⟩
 ·exact IsS53.far (IsS53.far (IsS53.far (IsS53.far HA6.out.st hne2 _) hne2 _) hne2 _) hne2 _
 ·have hz : w0.heap.size ≤ w.heap.size + 1 := by have := HBS.out; omega
  exact bwS (bwS (bwS (bwS HA6.out.bel hz) hz) hz) hz
 have hz : w.heap.size ≤ w.heap.size + 1 := by omega
 exact keep_far (keep_far (keep_far (keep_far HA6.out.keep hz _) hz _) hz _) hz _

set_option maxHeartbeats 1000000 in
set_option maxRecDepth 100000 in
theorem key_second_abort (k : Nat) (g : Nat) (s0_0 : Int) (s0_1 : Bool) (s0_2 : Int) (a1_0 : Int) (a1_1 : Int) (a1_2 : Bool) (a1_3 : Bool) (a1_4 : Bool) (a1_5 : ByteArray) (t1 t2 : Int) (t3 : ByteArray) (t4 : Int) (r1 r2 : Int) (r3 : ByteArray) (r4 : Int) (w0 w : World) (hI : IsS53 w0 w g s0_0 s0_1 s0_2) (hB : Below w0.heap.size w0 w) (h : bind_Binder_digit.f s0_0 s0_1 s0_2 a1_0 a1_1 a1_2 a1_3 a1_4 a1_5 = some (false, s0_0, s0_1, s0_2)) (hz : (s0_0 == 0) = false) (hz' : (s0_0 != 0) = true) (hs : bind_single.f k a1_0 a1_1 a1_2 a1_3 a1_4 a1_5 = some (t1, t2, t3, t4)) (hs2 : bind_second.f k s0_0 a1_0 a1_1 a1_2 a1_3 a1_4 a1_5 = some (r1, r2, r3, r4)) (hr : (r1 != 37) = false) :
    Calls Try.prog 23 #[.pointer (some ⟨g, 0, none⟩), .agg #[.int .i64 a1_0, .int .i32 a1_1, .bool a1_2, .bool a1_3, .bool a1_4, .string a1_5]] w fun e w' => e = .returned (.tuple #[.agg #[.int .i64 r1, .int .i64 r2, .string r3, .int .u8 r4], .bool true]) ∧ IsS53 w0 w' g 0 false 0 ∧ Below w0.heap.size w0 w' ∧ KeepBut w w' g none := by
 have hlt := aM hI.lt
 have hge := aM hI.ge
 have HA := aM (KeyAt.start (a1_0 := a1_0) (a1_1 := a1_1) (a1_2 := a1_2) (a1_3 := a1_3) (a1_4 := a1_4) (a1_5 := a1_5) hI hB)
 have HBS := aM hB.size
 clear hI hB
 have H := aM h
 have HS := aM hs
 have HS2 := aM hs2
 clear h hs hs2
 have hne1 : g ≠ w.heap.size := by have := hlt.out; omega
 have hne2 : g ≠ w.heap.size + 1 := by have := hlt.out; omega
 have hne1' : w.heap.size ≠ g := by have := hlt.out; omega
 have hne2' : w.heap.size + 1 ≠ g := by have := hlt.out; omega
 go_enter Try.func23, Try.ntmps23
 go_wp2_with (first
  | (go_at_call 31; refine (bind_Binder_digit.calls g s0_0 s0_1 s0_2 a1_0 a1_1 a1_2 a1_3 a1_4 a1_5 false s0_0 s0_1 s0_2 w0 _ HA.1.st HA.1.bel H.out).mono ?_; rintro e w1 ⟨rfl, hI1, hB1, hK1⟩; have HA1 := aM (HA.1.call hlt.out hI1 hB1 hK1); clear hI1 hB1 hK1 HA H; have b0 : w1.cell? ⟨w.heap.size, 0, none⟩ = some (.int .i64 a1_0) := (bkC HA1.out.box 0).trans rfl; have b1 : w1.cell? ⟨w.heap.size, 1, none⟩ = some (.int .i32 a1_1) := (bkC HA1.out.box 1).trans rfl; have b2 : w1.cell? ⟨w.heap.size, 2, none⟩ = some (.bool a1_2) := (bkC HA1.out.box 2).trans rfl; have b3 : w1.cell? ⟨w.heap.size, 3, none⟩ = some (.bool a1_3) := (bkC HA1.out.box 3).trans rfl; have b4 : w1.cell? ⟨w.heap.size, 4, none⟩ = some (.bool a1_4) := (bkC HA1.out.box 4).trans rfl; have b5 : w1.cell? ⟨w.heap.size, 5, none⟩ = some (.string a1_5) := (bkC HA1.out.box 5).trans rfl; have c0 := cellS53_0 HA1.out.st.1; have f0 := bkF HA1.out.st.1 0; have c1 := cellS53_1 HA1.out.st.1; have f1 := bkF HA1.out.st.1 1; have c2 := cellS53_2 HA1.out.st.1; have f2 := bkF HA1.out.st.1 2)
  | (go_at_call 33; (refine (bind_single.calls k a1_0 a1_1 a1_2 a1_3 a1_4 a1_5 t1 t2 t3 t4 _ HS.out).mono ?_; rintro e w4 ⟨rfl, hB2⟩; have HA4 := aM (HA1.out.quiet hB2); clear hB2 HA1 HS; clear b0 b1 b2 b3 b4 b5 c0 f0 c1 f1 c2 f2; have b0 : w4.cell? ⟨w.heap.size, 0, none⟩ = some (.int .i64 a1_0) := (bkC HA4.out.box 0).trans rfl; have b1 : w4.cell? ⟨w.heap.size, 1, none⟩ = some (.int .i32 a1_1) := (bkC HA4.out.box 1).trans rfl; have b2 : w4.cell? ⟨w.heap.size, 2, none⟩ = some (.bool a1_2) := (bkC HA4.out.box 2).trans rfl; have b3 : w4.cell? ⟨w.heap.size, 3, none⟩ = some (.bool a1_3) := (bkC HA4.out.box 3).trans rfl; have b4 : w4.cell? ⟨w.heap.size, 4, none⟩ = some (.bool a1_4) := (bkC HA4.out.box 4).trans rfl; have b5 : w4.cell? ⟨w.heap.size, 5, none⟩ = some (.string a1_5) := (bkC HA4.out.box 5).trans rfl; have c0 := cellS53_0 HA4.out.st.1; have f0 := bkF HA4.out.st.1 0; have c1 := cellS53_1 HA4.out.st.1; have f1 := bkF HA4.out.st.1 1; have c2 := cellS53_2 HA4.out.st.1; have f2 := bkF HA4.out.st.1 2; have hn3 : g ≠ w4.heap.size := Nat.ne_of_lt HA4.out.st.lt; have hn3' : w4.heap.size ≠ g := Nat.ne_of_gt HA4.out.st.lt; have hn5 : w.heap.size ≠ w4.heap.size := Nat.ne_of_lt (bkL HA4.out.box); have hn6 : w.heap.size + 1 ≠ w4.heap.size := Nat.ne_of_lt (bkL HA4.out.res); have p0 := fun (o : Obj) => (World.cell?_alloc_lt w4 o ⟨g, 0, none⟩ HA4.out.st.lt).trans c0; have q0 := fun (o : Obj) => (World.cell?_alloc_lt w4 o ⟨w.heap.size, 0, none⟩ (bkL HA4.out.box)).trans b0; have q1 := fun (o : Obj) => (World.cell?_alloc_lt w4 o ⟨w.heap.size, 1, none⟩ (bkL HA4.out.box)).trans b1; have q2 := fun (o : Obj) => (World.cell?_alloc_lt w4 o ⟨w.heap.size, 2, none⟩ (bkL HA4.out.box)).trans b2; have q3 := fun (o : Obj) => (World.cell?_alloc_lt w4 o ⟨w.heap.size, 3, none⟩ (bkL HA4.out.box)).trans b3; have q4 := fun (o : Obj) => (World.cell?_alloc_lt w4 o ⟨w.heap.size, 4, none⟩ (bkL HA4.out.box)).trans b4; have q5 := fun (o : Obj) => (World.cell?_alloc_lt w4 o ⟨w.heap.size, 5, none⟩ (bkL HA4.out.box)).trans b5)))
 refine wp_region_still_tail 5 (by kernel_rfl) (by kernel_rfl) ?_
 simp only [List.take_succ_cons, List.take_zero, List.drop_succ_cons, List.drop_zero]
 change wpStill _ _ (World.drew (w4.alloc (.cells #[.int .i64 t1, .int .i64 t2, .string t3, .int .u8 t4] 36))) (fun a' => wpList _ _ _ _ a' (World.drew (w4.alloc (.cells #[.int .i64 t1, .int .i64 t2, .string t3, .int .u8 t4] 36)))) _ _
 have hT : (World.drew (w4.alloc (.cells #[.int .i64 t1, .int .i64 t2, .string t3, .int .u8 t4] 36))).heap[w4.heap.size]? = some (.cells #[.int .i64 t1, .int .i64 t2, .string t3, .int .u8 t4] 36 (0, 0)) := heap_alloc_new w4 _
 have hAT : KeyAt w0 w (World.drew (w4.alloc (.cells #[.int .i64 t1, .int .i64 t2, .string t3, .int .u8 t4] 36))) g s0_0 s0_1 s0_2 a1_0 a1_1 a1_2 a1_3 a1_4 a1_5 := HA4.out.quiet ((Below.refl _ _).alloc (Nat.le_refl _) _).drew
 generalize World.drew (w4.alloc (.cells #[.int .i64 t1, .int .i64 t2, .string t3, .int .u8 t4] 36)) = wT at hT hAT ⊢
 have HT := aM hT
 have HAT := aM hAT
 clear hT hAT p0 q0 q1 q2 q3 q4 q5 b0 b1 b2 b3 b4 b5 c0 f0 c1 f1 c2 f2
 have b0 : wT.cell? ⟨w.heap.size, 0, none⟩ = some (.int .i64 a1_0) := (bkC HAT.out.box 0).trans rfl
 have b1 : wT.cell? ⟨w.heap.size, 1, none⟩ = some (.int .i32 a1_1) := (bkC HAT.out.box 1).trans rfl
 have b2 : wT.cell? ⟨w.heap.size, 2, none⟩ = some (.bool a1_2) := (bkC HAT.out.box 2).trans rfl
 have b3 : wT.cell? ⟨w.heap.size, 3, none⟩ = some (.bool a1_3) := (bkC HAT.out.box 3).trans rfl
 have b4 : wT.cell? ⟨w.heap.size, 4, none⟩ = some (.bool a1_4) := (bkC HAT.out.box 4).trans rfl
 have b5 : wT.cell? ⟨w.heap.size, 5, none⟩ = some (.string a1_5) := (bkC HAT.out.box 5).trans rfl
 have c0 := cellS53_0 HAT.out.st.1
 have f0 := bkF HAT.out.st.1 0
 have c1 := cellS53_1 HAT.out.st.1
 have f1 := bkF HAT.out.st.1 1
 have c2 := cellS53_2 HAT.out.st.1
 have f2 := bkF HAT.out.st.1 2
 repeat still_step
 refine wpStill_nil ?_
 go_wp2_with (first
  | (go_at_call 34; refine (bind_second.calls k s0_0 a1_0 a1_1 a1_2 a1_3 a1_4 a1_5 r1 r2 r3 r4 _ HS2.out).mono ?_; rintro e w7 ⟨rfl, hB7⟩; have HX := aM (bkB HT.out hB7); have HA7 := aM (HAT.out.quiet hB7); have hn7 := aM (bkL HX.out); clear hB7 HT HAT HS2; clear b0 b1 b2 b3 b4 b5 c0 f0 c1 f1 c2 f2; have b0 : w7.cell? ⟨w.heap.size, 0, none⟩ = some (.int .i64 a1_0) := (bkC HA7.out.box 0).trans rfl; have b1 : w7.cell? ⟨w.heap.size, 1, none⟩ = some (.int .i32 a1_1) := (bkC HA7.out.box 1).trans rfl; have b2 : w7.cell? ⟨w.heap.size, 2, none⟩ = some (.bool a1_2) := (bkC HA7.out.box 2).trans rfl; have b3 : w7.cell? ⟨w.heap.size, 3, none⟩ = some (.bool a1_3) := (bkC HA7.out.box 3).trans rfl; have b4 : w7.cell? ⟨w.heap.size, 4, none⟩ = some (.bool a1_4) := (bkC HA7.out.box 4).trans rfl; have b5 : w7.cell? ⟨w.heap.size, 5, none⟩ = some (.string a1_5) := (bkC HA7.out.box 5).trans rfl; have c0 := cellS53_0 HA7.out.st.1; have f0 := bkF HA7.out.st.1 0; have c1 := cellS53_1 HA7.out.st.1; have f1 := bkF HA7.out.st.1 1; have c2 := cellS53_2 HA7.out.st.1; have f2 := bkF HA7.out.st.1 2; have x0 : w7.cell? ⟨w4.heap.size, 0, none⟩ = some (.int .i64 t1) := (bkC HX.out 0).trans rfl; have y0 := bkF HX.out 0; have x1 : w7.cell? ⟨w4.heap.size, 1, none⟩ = some (.int .i64 t2) := (bkC HX.out 1).trans rfl; have y1 := bkF HX.out 1; have x2 : w7.cell? ⟨w4.heap.size, 2, none⟩ = some (.string t3) := (bkC HX.out 2).trans rfl; have y2 := bkF HX.out 2; have x3 : w7.cell? ⟨w4.heap.size, 3, none⟩ = some (.int .u8 t4) := (bkC HX.out 3).trans rfl; have y3 := bkF HX.out 3)
  | (go_at_call 30; refine (bind_Binder_Reset.calls g s0_0 s0_1 s0_2 0 false 0 w0 _ (HA7.out.st.far hn3 _ |>.far hn3 _ |>.far hn3 _ |>.far hn3 _) (bwS (bwS (bwS (bwS HA7.out.bel HA4.out.bel.size) HA4.out.bel.size) HA4.out.bel.size) HA4.out.bel.size) rfl).mono ?_; rintro e w6 ⟨rfl, hI5, hB5, hK5⟩; have HX6 := aM (hK5.blk (g' := w4.heap.size) (show _ = some (Obj.cells #[.int .i64 r1, .int .i64 r2, .string r3, .int .u8 r4] 36 (0, 0)) from (bkU (cs := #[.int .i64 r1, .int .i64 r2, .string r3, .int .u8 t4]) (bkU (cs := #[.int .i64 r1, .int .i64 r2, .string t3, .int .u8 t4]) (bkU (cs := #[.int .i64 r1, .int .i64 t2, .string t3, .int .u8 t4]) (bkU (cs := #[.int .i64 t1, .int .i64 t2, .string t3, .int .u8 t4]) HX.out 0 _ rfl) 1 _ rfl) 2 _ rfl) 3 _ rfl)) hn3' (by simp)); have HA6 := aM (((KeyAt.four HA7.out HA4.out.bel.size HA4.out.keep.1 hn3 hn5 hn6 _ _ _ _)).call hlt.out hI5 hB5 hK5); clear hI5 hB5 hK5; (try clear HX); have HX := HX6; clear HX6; clear b0 b1 b2 b3 b4 b5 c0 f0 c1 f1 c2 f2; (try (clear x0 y0 x1 y1 x2 y2 x3 y3)); have b0 : w6.cell? ⟨w.heap.size, 0, none⟩ = some (.int .i64 a1_0) := (bkC HA6.out.box 0).trans rfl; have b1 : w6.cell? ⟨w.heap.size, 1, none⟩ = some (.int .i32 a1_1) := (bkC HA6.out.box 1).trans rfl; have b2 : w6.cell? ⟨w.heap.size, 2, none⟩ = some (.bool a1_2) := (bkC HA6.out.box 2).trans rfl; have b3 : w6.cell? ⟨w.heap.size, 3, none⟩ = some (.bool a1_3) := (bkC HA6.out.box 3).trans rfl; have b4 : w6.cell? ⟨w.heap.size, 4, none⟩ = some (.bool a1_4) := (bkC HA6.out.box 4).trans rfl; have b5 : w6.cell? ⟨w.heap.size, 5, none⟩ = some (.string a1_5) := (bkC HA6.out.box 5).trans rfl; have c0 := cellS53_0 HA6.out.st.1; have f0 := bkF HA6.out.st.1 0; have c1 := cellS53_1 HA6.out.st.1; have f1 := bkF HA6.out.st.1 1; have c2 := cellS53_2 HA6.out.st.1; have f2 := bkF HA6.out.st.1 2; have x0 : w6.cell? ⟨w4.heap.size, 0, none⟩ = some (.int .i64 r1) := (bkC HX.out 0).trans rfl; have y0 := bkF HX.out 0; have x1 : w6.cell? ⟨w4.heap.size, 1, none⟩ = some (.int .i64 r2) := (bkC HX.out 1).trans rfl; have y1 := bkF HX.out 1; have x2 : w6.cell? ⟨w4.heap.size, 2, none⟩ = some (.string r3) := (bkC HX.out 2).trans rfl; have y2 := bkF HX.out 2; have x3 : w6.cell? ⟨w4.heap.size, 3, none⟩ = some (.int .u8 r4) := (bkC HX.out 3).trans rfl; have y3 := bkF HX.out 3; have d0 : w6.cell? ⟨w.heap.size + 1, 0, none⟩ = some (.int .i64 0) := (bkC HA6.out.res 0).trans rfl; have e0 := bkF HA6.out.res 0; have d1 : w6.cell? ⟨w.heap.size + 1, 1, none⟩ = some (.int .i64 0) := (bkC HA6.out.res 1).trans rfl; have e1 := bkF HA6.out.res 1; have d2 : w6.cell? ⟨w.heap.size + 1, 2, none⟩ = some (.string ⟨#[]⟩) := (bkC HA6.out.res 2).trans rfl; have e2 := bkF HA6.out.res 2; have d3 : w6.cell? ⟨w.heap.size + 1, 3, none⟩ = some (.int .u8 0) := (bkC HA6.out.res 3).trans rfl; have e3 := bkF HA6.out.res 3))
 refine bodyPost_ret (results_ct rfl _ _ (w.heap.size + 1) 36 #[.int .i64 r1, .int .i64 r2, .string r3, .int .u8 r4] (0, 0) _ rfl ?_ Try.underlying36 rfl (by kernel_rfl)) rfl ?_
 ·exact (bkU (cs := #[.int .i64 r1, .int .i64 r2, .string r3, .int .u8 0]) (bkU (cs := #[.int .i64 r1, .int .i64 r2, .string ⟨#[]⟩, .int .u8 0]) (bkU (cs := #[.int .i64 r1, .int .i64 0, .string ⟨#[]⟩, .int .u8 0]) (bkU (cs := #[.int .i64 0, .int .i64 0, .string ⟨#[]⟩, .int .u8 0]) HA6.out.res 0 _ rfl) 1 _ rfl) 2 _ rfl) 3 _ rfl)
 refine ⟨rfl, ?_, ?_, ?_⟩
 ·exact IsS53.far (IsS53.far (IsS53.far (IsS53.far HA6.out.st hne2 _) hne2 _) hne2 _) hne2 _
 ·have hz : w0.heap.size ≤ w.heap.size + 1 := by have := HBS.out; omega
  exact bwS (bwS (bwS (bwS HA6.out.bel hz) hz) hz) hz
 have hz : w.heap.size ≤ w.heap.size + 1 := by omega
 exact keep_far (keep_far (keep_far (keep_far HA6.out.keep hz _) hz _) hz _) hz _

def bind_Binder_Key.fin (s0_0 : Int) (s0_1 : Bool) (s0_2 : Int) (c : Int × Int × ByteArray × Int) : Option (Int × Int × ByteArray × Int × Bool × Int × Bool × Int) :=
  if c.1 = 37 then some (c.1, c.2.1, c.2.2.1, c.2.2.2, true, 0, false, 0) else (bind_Binder_Count.f s0_0 s0_1 s0_2).bind fun n => some (c.1, n.1, c.2.2.1, c.2.2.2, true, 0, false, 0)
def bind_Binder_Key.f (k : Nat) (s0_0 : Int) (s0_1 : Bool) (s0_2 : Int) (a1_0 : Int) (a1_1 : Int) (a1_2 : Bool) (a1_3 : Bool) (a1_4 : Bool) (a1_5 : ByteArray) : Option (Int × Int × ByteArray × Int × Bool × Int × Bool × Int) :=
  (bind_Binder_digit.f s0_0 s0_1 s0_2 a1_0 a1_1 a1_2 a1_3 a1_4 a1_5).bind fun d =>
    if d.1 = true then some (0, 0, (⟨#[]⟩ : ByteArray), 0, false, s0_0, true, mn (wrap64 (wrap64 (s0_2 * 10) + wrap64 (wrap32 (a1_1 - 48)))) 1000)
    else if s0_0 = 0 then
      (bind_prefixOf.f k a1_0 a1_1 a1_2 a1_3 a1_4 a1_5).bind fun q => if q = 0 then (bind_single.f k a1_0 a1_1 a1_2 a1_3 a1_4 a1_5).bind fun c => bind_Binder_Key.fin s0_0 s0_1 s0_2 c else some (0, 0, (⟨#[]⟩ : ByteArray), 0, false, q, s0_1, s0_2)
    else (bind_single.f k a1_0 a1_1 a1_2 a1_3 a1_4 a1_5).bind fun _ => (bind_second.f k s0_0 a1_0 a1_1 a1_2 a1_3 a1_4 a1_5).bind fun c => bind_Binder_Key.fin s0_0 s0_1 s0_2 c
theorem bind_Binder_Key.mono : ∀ a0 a1 a2 a3 a4 a5 a6 a7 a8 k, LeO (bind_Binder_Key.f k a0 a1 a2 a3 a4 a5 a6 a7 a8) (bind_Binder_Key.f (k + 1) a0 a1 a2 a3 a4 a5 a6 a7 a8) := by
 intro a0 a1 a2 a3 a4 a5 a6 a7 a8 k
 unfold bind_Binder_Key.f
 repeat' first
  | (with_reducible exact bind_prefixOf.mono _ _ _ _ _ _ _)
  | (with_reducible exact bind_single.mono _ _ _ _ _ _ _)
  | (with_reducible exact bind_second.mono _ _ _ _ _ _ _ _)
  | (with_reducible exact LeO.refl _)
  | (with_reducible exact LeO.none _)
  | (with_reducible refine LeO.ite ?_ ?_)
  | (with_reducible refine LeO.bind ?_ (fun _ => ?_))
theorem key_count {s0_0 : Int} {s0_1 : Bool} {s0_2 : Int} {r1 : Int} {r2 : Bool} {r3 : Int} {r4 : Bool} {r5 : Int} (h : bind_Binder_Count.f s0_0 s0_1 s0_2 = some (r1, r2, r3, r4, r5)) : r3 = s0_0 ∧ r4 = s0_1 ∧ r5 = s0_2 := by
 unfold bind_Binder_Count.f at h
 repeat' split at h
 all_goals (simp only [Option.some.injEq, Prod.mk.injEq] at h; obtain ⟨-, -, rfl, rfl, rfl⟩ := h; exact ⟨rfl, rfl, rfl⟩)
theorem bind_Binder_Key.calls (k : Nat) (g : Nat) (s0_0 : Int) (s0_1 : Bool) (s0_2 : Int) (a1_0 : Int) (a1_1 : Int) (a1_2 : Bool) (a1_3 : Bool) (a1_4 : Bool) (a1_5 : ByteArray) (r1 : Int) (r2 : Int) (r3 : ByteArray) (r4 : Int) (r5 : Bool) (r6 : Int) (r7 : Bool) (r8 : Int) (w0 w : World) (hI : IsS53 w0 w g s0_0 s0_1 s0_2) (hB : Below w0.heap.size w0 w) (h : bind_Binder_Key.f k s0_0 s0_1 s0_2 a1_0 a1_1 a1_2 a1_3 a1_4 a1_5 = some (r1, r2, r3, r4, r5, r6, r7, r8)) :
    Calls Try.prog 23 #[.pointer (some ⟨g, 0, none⟩), .agg #[.int .i64 a1_0, .int .i32 a1_1, .bool a1_2, .bool a1_3, .bool a1_4, .string a1_5]] w fun e w' => e = .returned (.tuple #[.agg #[.int .i64 r1, .int .i64 r2, .string r3, .int .u8 r4], .bool r5]) ∧ IsS53 w0 w' g r6 r7 r8 ∧ Below w0.heap.size w0 w' ∧ KeepBut w w' g none := by
 unfold bind_Binder_Key.f at h
 obtain ⟨⟨d1, d2, d3, d4⟩, hd, h⟩ := Option.bind_eq_some_iff.mp h
 obtain ⟨rfl, rfl, rfl⟩ := digit_same hd
 cases d1 with
 | true =>
  rw [if_pos rfl] at h
  simp only [Option.some.injEq, Prod.mk.injEq] at h
  obtain ⟨rfl, rfl, rfl, rfl, rfl, rfl, rfl, rfl⟩ := h
  exact key_digit g _ _ _ a1_0 a1_1 a1_2 a1_3 a1_4 a1_5 w0 w hI hB hd
 | false =>
  rw [if_neg (show ¬ (((false, d2, d3, d4) : Bool × Int × Bool × Int).1 = true) from by simp)] at h
  by_cases hz : d2 = 0
  ·subst hz
   rw [if_pos rfl] at h
   obtain ⟨q, hq, h⟩ := Option.bind_eq_some_iff.mp h
   by_cases hq0 : q = 0
   ·subst hq0
    rw [if_pos rfl] at h
    obtain ⟨⟨c1, c2, c3, c4⟩, hc, h⟩ := Option.bind_eq_some_iff.mp h
    unfold bind_Binder_Key.fin at h
    by_cases h37 : c1 = 37
    ·rw [if_pos h37] at h
     simp only [Option.some.injEq, Prod.mk.injEq] at h
     obtain ⟨rfl, rfl, rfl, rfl, rfl, rfl, rfl, rfl⟩ := h
     exact key_abort k g _ _ a1_0 a1_1 a1_2 a1_3 a1_4 a1_5 _ _ _ _ w0 w hI hB hd hq hc (bne_eq_false_iff_eq.mpr h37)
    rw [if_neg h37] at h
    obtain ⟨⟨n1, n2, n3, n4, n5⟩, hn, h⟩ := Option.bind_eq_some_iff.mp h
    simp only [Option.some.injEq, Prod.mk.injEq] at h
    obtain ⟨rfl, rfl, rfl, rfl, rfl, rfl, rfl, rfl⟩ := h
    obtain ⟨rfl, rfl, rfl⟩ := key_count hn
    exact key_single k g _ _ a1_0 a1_1 a1_2 a1_3 a1_4 a1_5 _ _ _ _ _ _ w0 w hI hB hd hq hc (bne_iff_ne.mpr h37) hn
   rw [if_neg hq0] at h
   simp only [Option.some.injEq, Prod.mk.injEq] at h
   obtain ⟨rfl, rfl, rfl, rfl, rfl, rfl, rfl, rfl⟩ := h
   exact key_prefix k g _ _ a1_0 a1_1 a1_2 a1_3 a1_4 a1_5 _ w0 w hI hB hd hq (bne_iff_ne.mpr hq0)
  rw [if_neg hz] at h
  obtain ⟨⟨t1, t2, t3, t4⟩, ht, h⟩ := Option.bind_eq_some_iff.mp h
  obtain ⟨⟨c1, c2, c3, c4⟩, hc, h⟩ := Option.bind_eq_some_iff.mp h
  unfold bind_Binder_Key.fin at h
  by_cases h37 : c1 = 37
  ·rw [if_pos h37] at h
   simp only [Option.some.injEq, Prod.mk.injEq] at h
   obtain ⟨rfl, rfl, rfl, rfl, rfl, rfl, rfl, rfl⟩ := h
   exact key_second_abort k g _ _ _ a1_0 a1_1 a1_2 a1_3 a1_4 a1_5 _ _ _ _ _ _ _ _ w0 w hI hB hd (beq_eq_false_iff_ne.mpr hz) (bne_iff_ne.mpr hz) ht hc (bne_eq_false_iff_eq.mpr h37)
  rw [if_neg h37] at h
  obtain ⟨⟨n1, n2, n3, n4, n5⟩, hn, h⟩ := Option.bind_eq_some_iff.mp h
  simp only [Option.some.injEq, Prod.mk.injEq] at h
  obtain ⟨rfl, rfl, rfl, rfl, rfl, rfl, rfl, rfl⟩ := h
  obtain ⟨rfl, rfl, rfl⟩ := key_count hn
  exact key_second k g _ _ _ a1_0 a1_1 a1_2 a1_3 a1_4 a1_5 _ _ _ _ _ _ _ _ _ _ w0 w hI hB hd (beq_eq_false_iff_ne.mpr hz) (bne_iff_ne.mpr hz) ht hc (bne_iff_ne.mpr h37) hn

/-! ### bind_Commands: function 17 -/
def bind_Commands.l0 : Nat → List (S36) → List (S25) → Int → Int → Int → Bool → Int → Option ((List (S36)))
  | 0, _, _, _, _, _, _, _ => none
  | k + 1, x4, x10, x11, x12, x202000, x202001, x202002 => if x12 < x11 then (if 0 ≤ x12 then (if x12 < (x10.length : Int) then ((bind_Binder_Key.f k x202000 x202001 x202002 ((rd_T25 x10 x12).f0) ((rd_T25 x10 x12).f1) ((rd_T25 x10 x12).f2) ((rd_T25 x10 x12).f3) ((rd_T25 x10 x12).f4) ((rd_T25 x10 x12).f5)).bind fun bt204 => (if bt204.2.2.2.2.1 = true then (if x4.length < 3518437208883 then (bind_Commands.l0 k (x4 ++ [(⟨bt204.1, bt204.2.1, bt204.2.2.1, bt204.2.2.2.1⟩ : S36)]) x10 x11 (wrap64 (x12 + 1)) bt204.2.2.2.2.2.1 bt204.2.2.2.2.2.2.1 bt204.2.2.2.2.2.2.2) else (none)) else (bind_Commands.l0 k x4 x10 x11 (wrap64 (x12 + 1)) bt204.2.2.2.2.2.1 bt204.2.2.2.2.2.2.1 bt204.2.2.2.2.2.2.2))) else (none)) else (none)) else (some x4)
def bind_Commands.f (k : Nat) (l0 : List (S25)) : Option ((List (S36))) := (bind_New.f).bind fun bt198 => (bind_Commands.l0 k ([] : List (S36)) l0 (l0.length : Int) 0 bt198.1 bt198.2.1 bt198.2.2)
theorem bind_Commands.mono_l : ∀ k, (∀ y0 y1 y2 y3 y4 y5 y6, LeO (bind_Commands.l0 k y0 y1 y2 y3 y4 y5 y6) (bind_Commands.l0 (k + 1) y0 y1 y2 y3 y4 y5 y6))
  | 0 => fun _ _ _ _ _ _ _ r h => by simp [bind_Commands.l0] at h
  | k + 1 => by
    have ih0 := bind_Commands.mono_l k
    · intro y0 y1 y2 y3 y4 y5 y6
      unfold bind_Commands.l0
      repeat' first
      | (with_reducible exact ih0 _ _ _ _ _ _ _)
      | (with_reducible exact bind_Binder_Key.mono _ _ _ _ _ _ _ _ _ _)
      | (with_reducible exact LeO.refl _)
      | (with_reducible exact LeO.none _)
      | (with_reducible refine LeO.ite ?_ ?_)
      | (with_reducible refine LeO.bind ?_ (fun _ => ?_))
      | exact ih0 _ _ _ _ _ _ _
      | exact bind_Binder_Key.mono _ _ _ _ _ _ _ _ _ _
      | exact LeO.none _
      | refine LeO.ite ?_ ?_
      | refine LeO.bind ?_ (fun _ => ?_)
theorem bind_Commands.mono : ∀ a0 k, LeO (bind_Commands.f k a0) (bind_Commands.f (k + 1) a0) := by
 intro a0 k
 have ih0 := bind_Commands.mono_l k
 unfold bind_Commands.f
 repeat' first
   | (with_reducible exact ih0 _ _ _ _ _ _ _)
   | (with_reducible exact bind_Binder_Key.mono _ _ _ _ _ _ _ _ _ _)
   | (with_reducible exact LeO.refl _)
   | (with_reducible exact LeO.none _)
   | (with_reducible refine LeO.ite ?_ ?_)
   | (with_reducible refine LeO.bind ?_ (fun _ => ?_))
   | exact ih0 _ _ _ _ _ _ _
   | exact bind_Binder_Key.mono _ _ _ _ _ _ _ _ _ _
   | exact LeO.none _
   | refine LeO.ite ?_ ?_
   | refine LeO.bind ?_ (fun _ => ?_)
set_option maxHeartbeats 8000000 in
set_option maxRecDepth 100000 in
theorem bind_Commands.calls (k : Nat) (A0 : Option Addr) (c0 : Nat) (l0 : List (S25)) (r : List (S36)) (w : World) (hr0 : Kd.C k25 w A0 l0.length l0) (hc0 : l0.length ≤ c0) (h : bind_Commands.f k l0 = some r) :
    Calls Try.prog 17 #[.slice A0 l0.length c0] w fun e w' => ∃ v0_ : Value, e = .returned (v0_) ∧ Kd.R k36 36 w' w.heap.size (fun _ => True) v0_ r ∧ Below w.heap.size w w' := by
 have hu25 := Try.underlying25
 have hu36 := Try.underlying36
 have HR0 := aM hr0
 have HC0 := aM hc0
 clear hr0 hc0
 have HB := aM (Below.refl w.heap.size w)
 have H : ((bind_New.f).bind fun bt198 => (bind_Commands.l0 k ([] : List (S36)) l0 (l0.length : Int) 0 bt198.1 bt198.2.1 bt198.2.2)) = some r := h
 clear h
 replace H := Option.bind_eq_some_iff.mp H
 obtain ⟨⟨t198, t199, t200⟩, A20, H⟩ := H
 replace H : (bind_Commands.l0 k ([] : List (S36)) l0 (l0.length : Int) 0 t198 t199 t200) = some r := H
 have A2 := aM A20
 clear A20
 have H' := aM H
 clear H
 go_enter Try.func17, Try.ntmps17
 go_wp2_with (first | ((with_reducible refine gate_callee (f := 21) rfl ?_); refine goesL_ (some 9) rfl rfl Try.func21 (by kernel_rfl) rfl #[] rfl (by (try simp only [List.map_toArray, List.map_cons, List.map_nil]); first | done | rfl) ?_; (with_reducible refine (bind_New.calls  t198 t199 t200 w _ ?side1 A2.1).mono ?_); (case side1 => apply_rules (transparency := .reducible) [HB.1, bwA, bwN, bwD]); rintro e w3 ⟨g201, rfl, hi, hb, hb2⟩; refine ⟨_, rfl, ?_⟩; replace HB := aM (hb); have HI201 := aM (hi); (try clear hb); (try clear hb2); (try clear hk); (try clear hi)))
 go_loopg [4, 12] k (fun kq v4 v12 w' => ∃ (x4_1 : List (S36)) (x12_1 : Int) (x202000_1 : Int) (x202001_1 : Bool) (x202002_1 : Int), v12 = .int .i64 x12_1 ∧ Aside0 (bind_Commands.l0 kq x4_1 l0 (l0.length : Int) x12_1 x202000_1 x202001_1 x202002_1 = some r) ∧ Aside0 (kq ≤ k) ∧ Aside0 (Kd.R k36 36 w' w.heap.size (fun _ => True) v4 x4_1) ∧ Aside0 (IsS53 w w' g201 x202000_1 x202001_1 x202002_1) ∧ Aside0 (Below w.heap.size w w'))
 case atStart => exact ⟨(([] : List (S36))), (0), (t198), (t199), (t200), rfl, H', ⟨Nat.le_refl _⟩, ⟨by first | exact Kd.R_nil _ _ _ _ _ | exact Kd.N_nil _ _ _ _ _ | exact Kd.V_nil _ _ _ _ _ | exact Kd.Q_nil _ _ _ _ _ | exact Kd.S_nil _ _ _ _ _⟩, ⟨by apply_rules (transparency := .reducible) [HI201.1, IsS53.alloc, IsS53.drewN, IsS53.drew, IsS53.set_0, IsS53.set_1, IsS53.set_2]⟩, ⟨by apply_rules (transparency := .reducible) [HB.1, bwA, bwN, bwD, bwS, (IsS53.ge HI201.1)]⟩⟩
 clear H'
 obtain ⟨x4_1, x12_1, x202000_1, x202001_1, x202002_1, rfl, HA, HK1, HO_4, HI201, HB⟩ := hrel
 obtain _ | k1 := gk
 ·exact absurd HA.1 (by simp [bind_Commands.l0])
 have H := HA.1
 clear HA
 simp only [bind_Commands.l0] at H
 by_cases c4 : x12_1 < (l0.length : Int)
 ·rw [if_pos c4] at H
  have c4b0 : decide (x12_1 < (l0.length : Int)) = true := decide_eq_true c4
  clear c4
  by_cases c5 : 0 ≤ x12_1
  ·rw [if_pos c5] at H
   have c5b0 : decide (0 ≤ x12_1) = true := decide_eq_true c5
   clear c5
   by_cases c6 : x12_1 < (l0.length : Int)
   ·rw [if_pos c6] at H
    have c6b0 : decide (x12_1 < (l0.length : Int)) = true := decide_eq_true c6
    clear c6
    replace H := Option.bind_eq_some_iff.mp H
    obtain ⟨⟨t204, t205, t206, t207, t208, t209, t210, t211⟩, A70, H⟩ := H
    replace H : (if t208 = true then (if x4_1.length < 3518437208883 then (bind_Commands.l0 k1 (x4_1 ++ [(⟨t204, t205, t206, t207⟩ : S36)]) l0 (l0.length : Int) (wrap64 (x12_1 + 1)) t209 t210 t211) else (none)) else (bind_Commands.l0 k1 x4_1 l0 (l0.length : Int) (wrap64 (x12_1 + 1)) t209 t210 t211)) = some r := H
    have A7 := aM A70
    clear A70
    by_cases c8 : t208 = true
    ·subst c8
     replace H : (if x4_1.length < 3518437208883 then (bind_Commands.l0 k1 (x4_1 ++ [(⟨t204, t205, t206, t207⟩ : S36)]) l0 (l0.length : Int) (wrap64 (x12_1 + 1)) t209 t210 t211) else (none)) = some r := by rw [if_pos rfl] at H; exact H
     by_cases c9 : x4_1.length < 3518437208883
     ·rw [if_pos c9] at H
      have LMc9 := aM c9
      clear c9
      obtain ⟨y213, hy213⟩ : ∃ y_ : List (S36), y_ = (x4_1 ++ [(⟨t204, t205, t206, t207⟩ : S36)]) := ⟨_, rfl⟩
      replace H : (bind_Commands.l0 k1 y213 l0 (l0.length : Int) (wrap64 (x12_1 + 1)) t209 t210 t211) = some r := by first | (rw [hy213]; with_reducible exact H) | (have H2_ := (Option.bind_some _ _).symm.trans H; rw [hy213]; with_reducible exact H2_) | (have H2_ := (Option.bind_some _ _).symm.trans H; with_reducible exact H2_) | with_reducible exact H | (rw [hy213]; exact H) | exact H
      have Ny213 := aM hy213
      clear hy213
      have H' := aM H
      clear H
      have p202 : 0 ≤ (x12_1 : Int) := of_decide_eq_true (by first | (with_reducible assumption) | assumption)
      have q202 : x12_1 < (l0.length : Int) := of_decide_eq_true (by first | (with_reducible assumption) | assumption)
      obtain ⟨ad202, e202, hx202_0, hx202_1, hx202_2, hx202_3, hx202_4, hx202_5⟩ := at_T25 HR0.out x12_1 p202 q202
      cases e202
      replace hx202_0 := (HB.1.cell (World.block_lt_of_cell? w _ hx202_0)).trans hx202_0
      replace hx202_1 := (HB.1.cell (World.block_lt_of_cell? w _ hx202_1)).trans hx202_1
      replace hx202_2 := (HB.1.cell (World.block_lt_of_cell? w _ hx202_2)).trans hx202_2
      replace hx202_3 := (HB.1.cell (World.block_lt_of_cell? w _ hx202_3)).trans hx202_3
      replace hx202_4 := (HB.1.cell (World.block_lt_of_cell? w _ hx202_4)).trans hx202_4
      replace hx202_5 := (HB.1.cell (World.block_lt_of_cell? w _ hx202_5)).trans hx202_5
      replace p202 := eq_true p202
      replace q202 := eq_true q202
      go_wp2_with (first | ((with_reducible refine gate_dst (N := 6) rfl ?_); refine box_event ?hg (N := 6) ?hd (cs := #[.int .i64 0, .int .i32 0, .bool false, .bool false, .bool false, .string (⟨#[]⟩ : ByteArray)]) (t := 25) ?hr ?_; (case hd => rfl); (case hg => rfl); (case hr => first | (go_simp; done) | (go_simp; rfl)); intro gb203 hg w10 hbox hb; replace HO_4 := aM (Kd.R_below (by (with_reducible repeat first | apply Kd.R_alloc | apply Kd.R_drewN | apply Kd.R_drew); exact HO_4.out) hb); have BK203 := aM (hbox); have GW203 := aM ((by rw [hg]; exact (bwZ (by apply_rules (transparency := .reducible) [HB.1, bwA, bwN, bwD, bwS, (IsS53.ge HI201.1)])) : w.heap.size ≤ gb203)); have GE203 := aM ((by rw [hg]; exact (bwZ (by apply_rules (transparency := .reducible) [HB.1, bwA, bwN, bwD, bwS, (IsS53.ge HI201.1)])) : w.heap.size ≤ gb203)); replace HB := aM (bwP (by apply_rules (transparency := .reducible) [HB.1, bwA, bwN, bwD, bwS, (IsS53.ge HI201.1)]) hb); have NB201_203 := aM ((by rw [hg]; exact Nat.ne_of_lt (IsS53.lt (show IsS53 w _ g201 x202000_1 x202001_1 x202002_1 from by apply_rules (transparency := .reducible) [HI201.1, IsS53.alloc, IsS53.drewN, IsS53.drew, IsS53.set_0, IsS53.set_1, IsS53.set_2])) : g201 ≠ gb203)); have NB203_201 := aM ((by rw [hg]; exact Nat.ne_of_gt (IsS53.lt (show IsS53 w _ g201 x202000_1 x202001_1 x202002_1 from by apply_rules (transparency := .reducible) [HI201.1, IsS53.alloc, IsS53.drewN, IsS53.drew, IsS53.set_0, IsS53.set_1, IsS53.set_2])) : gb203 ≠ g201)); replace HI201 := aM (IsS53.below (by apply_rules (transparency := .reducible) [HI201.1, IsS53.alloc, IsS53.drewN, IsS53.drew, IsS53.set_0, IsS53.set_1, IsS53.set_2]) hb); clear hb hbox hg; have hnb11 := NB203_201.1; have hnc11 := NB201_203.1; obtain ⟨z12_0, z12_1, z12_2, z12_3, z12_4, z12_5, z12_6, z12_7, z12_8, z12_9, z12_10, z12_11⟩ := bx6 BK203.1) | ((with_reducible refine gate_callee (f := 23) rfl ?_); refine goesL_ (some 19) rfl rfl Try.func23 (by kernel_rfl) rfl #[.pointer (some ⟨g201, 0, none⟩), .agg #[.int .i64 ((rd_T25 l0 x12_1).f0), .int .i32 ((rd_T25 l0 x12_1).f1), .bool ((rd_T25 l0 x12_1).f2), .bool ((rd_T25 l0 x12_1).f3), .bool ((rd_T25 l0 x12_1).f4), .string ((rd_T25 l0 x12_1).f5)]] rfl (by (try simp only [List.map_toArray, List.map_cons, List.map_nil]); first | done | rfl) ?_; (with_reducible refine (bind_Binder_Key.calls k1 g201 x202000_1 x202001_1 x202002_1 ((rd_T25 l0 x12_1).f0) ((rd_T25 l0 x12_1).f1) ((rd_T25 l0 x12_1).f2) ((rd_T25 l0 x12_1).f3) ((rd_T25 l0 x12_1).f4) ((rd_T25 l0 x12_1).f5) t204 t205 t206 t207 true t209 t210 t211 w _ ?side1 ?side2 A7.1).mono ?_); (case side1 => repeat (first | (with_reducible first | exact HI201.1 | apply IsS53.alloc | apply IsS53.drewN | apply IsS53.drew | apply IsS53.set_0 | apply IsS53.set_1 | apply IsS53.set_2 | refine IsS53.far ?_ NB201_203.1 _) | exact HI201.1)); (case side2 => apply_rules (transparency := .reducible) [HB.1, bwA, bwN, bwD, bwS, (IsS53.ge HI201.1), GE203.1]); rintro e w13 ⟨rfl, hi, hb, hk⟩; refine ⟨_, rfl, ?_⟩; replace HO_4 := aM (Kd.R_mono (Kd.R_keep (IsS53.apart (show IsS53 w _ g201 x202000_1 x202001_1 x202002_1 from by repeat (first | (with_reducible first | exact HI201.1 | apply IsS53.alloc | apply IsS53.drewN | apply IsS53.drew | apply IsS53.set_0 | apply IsS53.set_1 | apply IsS53.set_2 | refine IsS53.far ?_ NB201_203.1 _) | exact HI201.1)) (by (with_reducible repeat first | apply Kd.R_alloc | apply Kd.R_drewN | apply Kd.R_drew); exact (Kd.R_mono (Kd.R_far (p := ⟨gb203, 5, none⟩) (Kd.R_far (p := ⟨gb203, 4, none⟩) (Kd.R_far (p := ⟨gb203, 3, none⟩) (Kd.R_far (p := ⟨gb203, 2, none⟩) (Kd.R_far (p := ⟨gb203, 1, none⟩) (Kd.R_far (p := ⟨gb203, 0, none⟩) (Kd.R_types HO_4.out BK203.1 (by decide)) (fun _ hk => hk.2) (.int .i64 ((rd_T25 l0 x12_1).f0))) (fun _ hk => hk.2) (.int .i32 ((rd_T25 l0 x12_1).f1))) (fun _ hk => hk.2) (.bool ((rd_T25 l0 x12_1).f2))) (fun _ hk => hk.2) (.bool ((rd_T25 l0 x12_1).f3))) (fun _ hk => hk.2) (.bool ((rd_T25 l0 x12_1).f4))) (fun _ hk => hk.2) (.string ((rd_T25 l0 x12_1).f5))) (fun _ h_ => h_.1))) (by decide)) hk (fun _ h => h.2)) (fun _ h => h.1)); replace BK203 := aM (KeepBut.blk hk (g' := gb203) (o := .cells #[.int .i64 ((rd_T25 l0 x12_1).f0), .int .i32 ((rd_T25 l0 x12_1).f1), .bool ((rd_T25 l0 x12_1).f2), .bool ((rd_T25 l0 x12_1).f3), .bool ((rd_T25 l0 x12_1).f4), .string ((rd_T25 l0 x12_1).f5)] 25 (0, 0)) (by (with_reducible repeat first | apply bkN | apply bkD | apply bkA); refine bkU (cs := #[.int .i64 ((rd_T25 l0 x12_1).f0), .int .i32 ((rd_T25 l0 x12_1).f1), .bool ((rd_T25 l0 x12_1).f2), .bool ((rd_T25 l0 x12_1).f3), .bool ((rd_T25 l0 x12_1).f4), .string (⟨#[]⟩ : ByteArray)]) ?_ 5 _ rfl; (with_reducible repeat first | apply bkN | apply bkD | apply bkA); refine bkU (cs := #[.int .i64 ((rd_T25 l0 x12_1).f0), .int .i32 ((rd_T25 l0 x12_1).f1), .bool ((rd_T25 l0 x12_1).f2), .bool ((rd_T25 l0 x12_1).f3), .bool false, .string (⟨#[]⟩ : ByteArray)]) ?_ 4 _ rfl; (with_reducible repeat first | apply bkN | apply bkD | apply bkA); refine put4 (cs := #[.int .i64 0, .int .i32 0, .bool false, .bool false, .bool false, .string (⟨#[]⟩ : ByteArray)]) ?_ rfl; (with_reducible repeat first | apply bkN | apply bkD | apply bkA); exact BK203.1) NB203_201.1 (by simp)); replace HB := aM (hb); replace HI201 := aM (hi); (try clear hb); (try clear hb2); (try clear hk); (try clear hi)) | ((with_reducible refine gate_dst (N := 7) rfl ?_); refine box_event ?hg (N := 7) ?hd (cs := #[.int .i64 0, .int .i64 0, .string (⟨#[]⟩ : ByteArray), .int .u8 0]) (t := 36) ?hr ?_; (case hd => rfl); (case hg => rfl); (case hr => first | (go_simp; done) | (go_simp; rfl)); intro gb212 hg w14 hbox hb; replace HO_4 := aM (Kd.R_below (Kd.R_elderB (by (with_reducible repeat first | apply Kd.R_alloc | apply Kd.R_drewN | apply Kd.R_drew); exact HO_4.out) gb212 (Nat.le_of_eq hg.symm)) hb); have BK212 := aM (hbox); have GW212 := aM ((by rw [hg]; exact (bwZ (by apply_rules (transparency := .reducible) [HB.1, bwA, bwN, bwD, bwS, (IsS53.ge HI201.1), GE203.1])) : w.heap.size ≤ gb212)); have GE212 := aM ((by rw [hg]; exact (bwZ (by apply_rules (transparency := .reducible) [HB.1, bwA, bwN, bwD, bwS, (IsS53.ge HI201.1), GE203.1])) : w.heap.size ≤ gb212)); replace HB := aM (bwP (by apply_rules (transparency := .reducible) [HB.1, bwA, bwN, bwD, bwS, (IsS53.ge HI201.1), GE203.1]) hb); have NB203_212 := aM ((by rw [hg]; exact Nat.ne_of_lt (bkL (g := gb203) (o := .cells #[.int .i64 ((rd_T25 l0 x12_1).f0), .int .i32 ((rd_T25 l0 x12_1).f1), .bool ((rd_T25 l0 x12_1).f2), .bool ((rd_T25 l0 x12_1).f3), .bool ((rd_T25 l0 x12_1).f4), .string ((rd_T25 l0 x12_1).f5)] 25 (0, 0)) (by apply_rules (transparency := .reducible) [BK203.1, bkN, bkD, bkA])) : gb203 ≠ gb212)); have NB212_203 := aM ((by rw [hg]; exact Nat.ne_of_gt (bkL (g := gb203) (o := .cells #[.int .i64 ((rd_T25 l0 x12_1).f0), .int .i32 ((rd_T25 l0 x12_1).f1), .bool ((rd_T25 l0 x12_1).f2), .bool ((rd_T25 l0 x12_1).f3), .bool ((rd_T25 l0 x12_1).f4), .string ((rd_T25 l0 x12_1).f5)] 25 (0, 0)) (by apply_rules (transparency := .reducible) [BK203.1, bkN, bkD, bkA])) : gb212 ≠ gb203)); replace BK203 := aM (bkB (g := gb203) (o := .cells #[.int .i64 ((rd_T25 l0 x12_1).f0), .int .i32 ((rd_T25 l0 x12_1).f1), .bool ((rd_T25 l0 x12_1).f2), .bool ((rd_T25 l0 x12_1).f3), .bool ((rd_T25 l0 x12_1).f4), .string ((rd_T25 l0 x12_1).f5)] 25 (0, 0)) (by apply_rules (transparency := .reducible) [BK203.1, bkN, bkD, bkA]) hb); have NB201_212 := aM ((by rw [hg]; exact Nat.ne_of_lt (IsS53.lt (show IsS53 w _ g201 t209 t210 t211 from by repeat (first | (with_reducible first | exact HI201.1 | apply IsS53.alloc | apply IsS53.drewN | apply IsS53.drew | apply IsS53.set_0 | apply IsS53.set_1 | apply IsS53.set_2 | refine IsS53.far ?_ NB201_203.1 _) | exact HI201.1))) : g201 ≠ gb212)); have NB212_201 := aM ((by rw [hg]; exact Nat.ne_of_gt (IsS53.lt (show IsS53 w _ g201 t209 t210 t211 from by repeat (first | (with_reducible first | exact HI201.1 | apply IsS53.alloc | apply IsS53.drewN | apply IsS53.drew | apply IsS53.set_0 | apply IsS53.set_1 | apply IsS53.set_2 | refine IsS53.far ?_ NB201_203.1 _) | exact HI201.1))) : gb212 ≠ g201)); replace HI201 := aM (IsS53.below (by repeat (first | (with_reducible first | exact HI201.1 | apply IsS53.alloc | apply IsS53.drewN | apply IsS53.drew | apply IsS53.set_0 | apply IsS53.set_1 | apply IsS53.set_2 | refine IsS53.far ?_ NB201_203.1 _) | exact HI201.1)) hb); clear hb hbox hg; have hnb15 := NB212_203.1; have hnc15 := NB203_212.1; have hnb16 := NB212_201.1; have hnc16 := NB201_212.1; obtain ⟨z17_0, z17_1, z17_2, z17_3, z17_4, z17_5, z17_6, z17_7⟩ := bx4 BK212.1) | ((with_reducible refine gate_builtin (b := .append) (xs := #[.tmp 23, .tmp 25]) rfl ?_); at_builtin; refine Kd.R_append k36 (w0 := w) w.heap.size rfl (.tmp 23) (.tmp 25) 31 36 (.agg #[(.int .i64 0), (.int .i64 0), (.string ⟨#[]⟩), (.int .u8 0)]) 40 rfl Try.underlying31 info36 rfl (by decide) (by omega) u4 x4_1 (⟨t204, t205, t206, t207⟩ : S36) [.int .i64 t204, .int .i64 t205, .string t206, .int .u8 t207] (fun k_ => k_ ≠ gb212) (fun _ => False) rfl (by first | (go_simp; done) | (go_simp; rfl)) ?aP (fun _ hk => hk.elim) ?aF ?aO ?aB ?aS ?aL ?_; (case aP => exact k36_mkM _ _ _ (⟨t204, t205, t206, t207⟩ : S36)); (case aB => exact (by apply_rules (transparency := .reducible) [HB.1, bwA, bwN, bwD, bwS, (IsS53.ge HI201.1), GE203.1, GE212.1])); (case aF => exact (fun k_ hk => Kd.freshB (g := gb212) (o := .cells #[.int .i64 t204, .int .i64 t205, .string t206, .int .u8 t207] 36 (0, 0)) (by (with_reducible repeat first | apply bkN | apply bkD | apply bkA); refine put4 (cs := #[.int .i64 0, .int .i64 0, .string (⟨#[]⟩ : ByteArray), .int .u8 0]) ?_ rfl; (with_reducible repeat first | apply bkN | apply bkD | apply bkA); exact BK212.1) k_ hk)); (case aO => exact (by (with_reducible repeat first | apply Kd.R_alloc | apply Kd.R_drewN | apply Kd.R_drew); exact Kd.R_mono (Kd.R_far (p := ⟨gb212, 3, none⟩) (Kd.R_far (p := ⟨gb212, 2, none⟩) (Kd.R_far (p := ⟨gb212, 1, none⟩) (Kd.R_far (p := ⟨gb212, 0, none⟩) (Kd.R_mono HO_4.out (fun k_ hk => (⟨hk, hk.2⟩ : _ ∧ k_ ≠ gb212))) (fun _ hk => hk.2) (.int .i64 t204)) (fun _ hk => hk.2) (.int .i64 t205)) (fun _ hk => hk.2) (.string t206)) (fun _ hk => hk.2) (.int .u8 t207)) (fun _ hk => hk.1.2))); (case aS => exact (bwZ (by apply_rules (transparency := .reducible) [HB.1, bwA, bwN, bwD, bwS, (IsS53.ge HI201.1), GE203.1, GE212.1]))); (case aL => have := LMc9.out; omega); intro v214 w18 ho hb hg hat; rw [← Ny213.1] at ho; have n0_ := aM (IsS53.grown (show IsS53 w _ g201 t209 t210 t211 from by repeat (first | (with_reducible first | exact HI201.1 | apply IsS53.alloc | apply IsS53.drewN | apply IsS53.drew | apply IsS53.set_0 | apply IsS53.set_1 | apply IsS53.set_2 | refine IsS53.far ?_ NB201_203.1 _ | refine IsS53.far ?_ NB201_212.1 _) | exact HI201.1)) hg (IsS53.own_ne HI201.1 HO_4.out (by decide))); have n1_ := aM (blk_grown (g := gb203) (o := .cells #[.int .i64 ((rd_T25 l0 x12_1).f0), .int .i32 ((rd_T25 l0 x12_1).f1), .bool ((rd_T25 l0 x12_1).f2), .bool ((rd_T25 l0 x12_1).f3), .bool ((rd_T25 l0 x12_1).f4), .string ((rd_T25 l0 x12_1).f5)] 25 (0, 0)) (by apply_rules (transparency := .reducible) [BK203.1, bkN, bkD, bkA, bkR, NB203_212.1]) hg (Kd.R_ne HO_4.out BK203.1 (by decide))); have n2_ := aM (blk_grown (g := gb212) (o := .cells #[.int .i64 t204, .int .i64 t205, .string t206, .int .u8 t207] 36 (0, 0)) (by (with_reducible repeat first | apply bkN | apply bkD | apply bkA); refine put4 (cs := #[.int .i64 0, .int .i64 0, .string (⟨#[]⟩ : ByteArray), .int .u8 0]) ?_ rfl; (with_reducible repeat first | apply bkN | apply bkD | apply bkA); exact BK212.1) hg (Kd.R_away HO_4.out (fun _ hk => hk.2))); have n3_ := aM (hb); have n4_ := aM (ho); clear HI201; clear BK203; clear BK212; clear HB; clear HO_4; have HI201 := n0_; have BK203 := n1_; have BK212 := n2_; have HB := n3_; have HO215 := n4_; clear n0_ n1_ n2_ n3_ n4_; clear ho hb hg hat))
      go_roundg k1
      case measure => have := HK1.out; omega
      case rel => exact ⟨(y213), (wrap64 (x12_1 + 1)), (t209), (t210), (t211), rfl, H', ⟨by have := HK1.out; omega⟩, ⟨by (with_reducible repeat first | apply Kd.R_alloc | apply Kd.R_drewN | apply Kd.R_drew); exact Kd.R_mono HO215.1 (fun _ hk => trivial)⟩, ⟨by repeat (first | (with_reducible first | exact HI201.1 | apply IsS53.alloc | apply IsS53.drewN | apply IsS53.drew | apply IsS53.set_0 | apply IsS53.set_1 | apply IsS53.set_2 | refine IsS53.far ?_ NB201_203.1 _ | refine IsS53.far ?_ NB201_212.1 _) | exact HI201.1)⟩, ⟨by apply_rules (transparency := .reducible) [HB.1, bwA, bwN, bwD, bwS, (IsS53.ge HI201.1), GE203.1, GE212.1]⟩⟩
     rw [if_neg c9] at H
     exact absurd H (by simp)
    replace c8 := Bool.eq_false_iff.mpr c8
    subst c8
    replace H : (bind_Commands.l0 k1 x4_1 l0 (l0.length : Int) (wrap64 (x12_1 + 1)) t209 t210 t211) = some r := by rw [if_neg (show ¬ (false = true) by decide)] at H; exact H
    have H' := aM H
    clear H
    have p202 : 0 ≤ (x12_1 : Int) := of_decide_eq_true (by first | (with_reducible assumption) | assumption)
    have q202 : x12_1 < (l0.length : Int) := of_decide_eq_true (by first | (with_reducible assumption) | assumption)
    obtain ⟨ad202, e202, hx202_0, hx202_1, hx202_2, hx202_3, hx202_4, hx202_5⟩ := at_T25 HR0.out x12_1 p202 q202
    cases e202
    replace hx202_0 := (HB.1.cell (World.block_lt_of_cell? w _ hx202_0)).trans hx202_0
    replace hx202_1 := (HB.1.cell (World.block_lt_of_cell? w _ hx202_1)).trans hx202_1
    replace hx202_2 := (HB.1.cell (World.block_lt_of_cell? w _ hx202_2)).trans hx202_2
    replace hx202_3 := (HB.1.cell (World.block_lt_of_cell? w _ hx202_3)).trans hx202_3
    replace hx202_4 := (HB.1.cell (World.block_lt_of_cell? w _ hx202_4)).trans hx202_4
    replace hx202_5 := (HB.1.cell (World.block_lt_of_cell? w _ hx202_5)).trans hx202_5
    replace p202 := eq_true p202
    replace q202 := eq_true q202
    go_wp2_with (first | ((with_reducible refine gate_dst (N := 6) rfl ?_); refine box_event ?hg (N := 6) ?hd (cs := #[.int .i64 0, .int .i32 0, .bool false, .bool false, .bool false, .string (⟨#[]⟩ : ByteArray)]) (t := 25) ?hr ?_; (case hd => rfl); (case hg => rfl); (case hr => first | (go_simp; done) | (go_simp; rfl)); intro gb203 hg w19 hbox hb; replace HO_4 := aM (Kd.R_below (by (with_reducible repeat first | apply Kd.R_alloc | apply Kd.R_drewN | apply Kd.R_drew); exact HO_4.out) hb); have BK203 := aM (hbox); have GW203 := aM ((by rw [hg]; exact (bwZ (by apply_rules (transparency := .reducible) [HB.1, bwA, bwN, bwD, bwS, (IsS53.ge HI201.1)])) : w.heap.size ≤ gb203)); have GE203 := aM ((by rw [hg]; exact (bwZ (by apply_rules (transparency := .reducible) [HB.1, bwA, bwN, bwD, bwS, (IsS53.ge HI201.1)])) : w.heap.size ≤ gb203)); replace HB := aM (bwP (by apply_rules (transparency := .reducible) [HB.1, bwA, bwN, bwD, bwS, (IsS53.ge HI201.1)]) hb); have NB201_203 := aM ((by rw [hg]; exact Nat.ne_of_lt (IsS53.lt (show IsS53 w _ g201 x202000_1 x202001_1 x202002_1 from by apply_rules (transparency := .reducible) [HI201.1, IsS53.alloc, IsS53.drewN, IsS53.drew, IsS53.set_0, IsS53.set_1, IsS53.set_2])) : g201 ≠ gb203)); have NB203_201 := aM ((by rw [hg]; exact Nat.ne_of_gt (IsS53.lt (show IsS53 w _ g201 x202000_1 x202001_1 x202002_1 from by apply_rules (transparency := .reducible) [HI201.1, IsS53.alloc, IsS53.drewN, IsS53.drew, IsS53.set_0, IsS53.set_1, IsS53.set_2])) : gb203 ≠ g201)); replace HI201 := aM (IsS53.below (by apply_rules (transparency := .reducible) [HI201.1, IsS53.alloc, IsS53.drewN, IsS53.drew, IsS53.set_0, IsS53.set_1, IsS53.set_2]) hb); clear hb hbox hg; have hnb20 := NB203_201.1; have hnc20 := NB201_203.1; obtain ⟨z21_0, z21_1, z21_2, z21_3, z21_4, z21_5, z21_6, z21_7, z21_8, z21_9, z21_10, z21_11⟩ := bx6 BK203.1) | ((with_reducible refine gate_callee (f := 23) rfl ?_); refine goesL_ (some 19) rfl rfl Try.func23 (by kernel_rfl) rfl #[.pointer (some ⟨g201, 0, none⟩), .agg #[.int .i64 ((rd_T25 l0 x12_1).f0), .int .i32 ((rd_T25 l0 x12_1).f1), .bool ((rd_T25 l0 x12_1).f2), .bool ((rd_T25 l0 x12_1).f3), .bool ((rd_T25 l0 x12_1).f4), .string ((rd_T25 l0 x12_1).f5)]] rfl (by (try simp only [List.map_toArray, List.map_cons, List.map_nil]); first | done | rfl) ?_; (with_reducible refine (bind_Binder_Key.calls k1 g201 x202000_1 x202001_1 x202002_1 ((rd_T25 l0 x12_1).f0) ((rd_T25 l0 x12_1).f1) ((rd_T25 l0 x12_1).f2) ((rd_T25 l0 x12_1).f3) ((rd_T25 l0 x12_1).f4) ((rd_T25 l0 x12_1).f5) t204 t205 t206 t207 false t209 t210 t211 w _ ?side1 ?side2 A7.1).mono ?_); (case side1 => repeat (first | (with_reducible first | exact HI201.1 | apply IsS53.alloc | apply IsS53.drewN | apply IsS53.drew | apply IsS53.set_0 | apply IsS53.set_1 | apply IsS53.set_2 | refine IsS53.far ?_ NB201_203.1 _) | exact HI201.1)); (case side2 => apply_rules (transparency := .reducible) [HB.1, bwA, bwN, bwD, bwS, (IsS53.ge HI201.1), GE203.1]); rintro e w22 ⟨rfl, hi, hb, hk⟩; refine ⟨_, rfl, ?_⟩; replace HO_4 := aM (Kd.R_mono (Kd.R_keep (IsS53.apart (show IsS53 w _ g201 x202000_1 x202001_1 x202002_1 from by repeat (first | (with_reducible first | exact HI201.1 | apply IsS53.alloc | apply IsS53.drewN | apply IsS53.drew | apply IsS53.set_0 | apply IsS53.set_1 | apply IsS53.set_2 | refine IsS53.far ?_ NB201_203.1 _) | exact HI201.1)) (by (with_reducible repeat first | apply Kd.R_alloc | apply Kd.R_drewN | apply Kd.R_drew); exact (Kd.R_mono (Kd.R_far (p := ⟨gb203, 5, none⟩) (Kd.R_far (p := ⟨gb203, 4, none⟩) (Kd.R_far (p := ⟨gb203, 3, none⟩) (Kd.R_far (p := ⟨gb203, 2, none⟩) (Kd.R_far (p := ⟨gb203, 1, none⟩) (Kd.R_far (p := ⟨gb203, 0, none⟩) (Kd.R_types HO_4.out BK203.1 (by decide)) (fun _ hk => hk.2) (.int .i64 ((rd_T25 l0 x12_1).f0))) (fun _ hk => hk.2) (.int .i32 ((rd_T25 l0 x12_1).f1))) (fun _ hk => hk.2) (.bool ((rd_T25 l0 x12_1).f2))) (fun _ hk => hk.2) (.bool ((rd_T25 l0 x12_1).f3))) (fun _ hk => hk.2) (.bool ((rd_T25 l0 x12_1).f4))) (fun _ hk => hk.2) (.string ((rd_T25 l0 x12_1).f5))) (fun _ h_ => h_.1))) (by decide)) hk (fun _ h => h.2)) (fun _ h => h.1)); replace BK203 := aM (KeepBut.blk hk (g' := gb203) (o := .cells #[.int .i64 ((rd_T25 l0 x12_1).f0), .int .i32 ((rd_T25 l0 x12_1).f1), .bool ((rd_T25 l0 x12_1).f2), .bool ((rd_T25 l0 x12_1).f3), .bool ((rd_T25 l0 x12_1).f4), .string ((rd_T25 l0 x12_1).f5)] 25 (0, 0)) (by (with_reducible repeat first | apply bkN | apply bkD | apply bkA); refine bkU (cs := #[.int .i64 ((rd_T25 l0 x12_1).f0), .int .i32 ((rd_T25 l0 x12_1).f1), .bool ((rd_T25 l0 x12_1).f2), .bool ((rd_T25 l0 x12_1).f3), .bool ((rd_T25 l0 x12_1).f4), .string (⟨#[]⟩ : ByteArray)]) ?_ 5 _ rfl; (with_reducible repeat first | apply bkN | apply bkD | apply bkA); refine bkU (cs := #[.int .i64 ((rd_T25 l0 x12_1).f0), .int .i32 ((rd_T25 l0 x12_1).f1), .bool ((rd_T25 l0 x12_1).f2), .bool ((rd_T25 l0 x12_1).f3), .bool false, .string (⟨#[]⟩ : ByteArray)]) ?_ 4 _ rfl; (with_reducible repeat first | apply bkN | apply bkD | apply bkA); refine put4 (cs := #[.int .i64 0, .int .i32 0, .bool false, .bool false, .bool false, .string (⟨#[]⟩ : ByteArray)]) ?_ rfl; (with_reducible repeat first | apply bkN | apply bkD | apply bkA); exact BK203.1) NB203_201.1 (by simp)); replace HB := aM (hb); replace HI201 := aM (hi); (try clear hb); (try clear hb2); (try clear hk); (try clear hi)) | ((with_reducible refine gate_dst (N := 7) rfl ?_); refine box_event ?hg (N := 7) ?hd (cs := #[.int .i64 0, .int .i64 0, .string (⟨#[]⟩ : ByteArray), .int .u8 0]) (t := 36) ?hr ?_; (case hd => rfl); (case hg => rfl); (case hr => first | (go_simp; done) | (go_simp; rfl)); intro gb212 hg w23 hbox hb; replace HO_4 := aM (Kd.R_below (Kd.R_elderB (by (with_reducible repeat first | apply Kd.R_alloc | apply Kd.R_drewN | apply Kd.R_drew); exact HO_4.out) gb212 (Nat.le_of_eq hg.symm)) hb); have BK212 := aM (hbox); have GW212 := aM ((by rw [hg]; exact (bwZ (by apply_rules (transparency := .reducible) [HB.1, bwA, bwN, bwD, bwS, (IsS53.ge HI201.1), GE203.1])) : w.heap.size ≤ gb212)); have GE212 := aM ((by rw [hg]; exact (bwZ (by apply_rules (transparency := .reducible) [HB.1, bwA, bwN, bwD, bwS, (IsS53.ge HI201.1), GE203.1])) : w.heap.size ≤ gb212)); replace HB := aM (bwP (by apply_rules (transparency := .reducible) [HB.1, bwA, bwN, bwD, bwS, (IsS53.ge HI201.1), GE203.1]) hb); have NB203_212 := aM ((by rw [hg]; exact Nat.ne_of_lt (bkL (g := gb203) (o := .cells #[.int .i64 ((rd_T25 l0 x12_1).f0), .int .i32 ((rd_T25 l0 x12_1).f1), .bool ((rd_T25 l0 x12_1).f2), .bool ((rd_T25 l0 x12_1).f3), .bool ((rd_T25 l0 x12_1).f4), .string ((rd_T25 l0 x12_1).f5)] 25 (0, 0)) (by apply_rules (transparency := .reducible) [BK203.1, bkN, bkD, bkA])) : gb203 ≠ gb212)); have NB212_203 := aM ((by rw [hg]; exact Nat.ne_of_gt (bkL (g := gb203) (o := .cells #[.int .i64 ((rd_T25 l0 x12_1).f0), .int .i32 ((rd_T25 l0 x12_1).f1), .bool ((rd_T25 l0 x12_1).f2), .bool ((rd_T25 l0 x12_1).f3), .bool ((rd_T25 l0 x12_1).f4), .string ((rd_T25 l0 x12_1).f5)] 25 (0, 0)) (by apply_rules (transparency := .reducible) [BK203.1, bkN, bkD, bkA])) : gb212 ≠ gb203)); replace BK203 := aM (bkB (g := gb203) (o := .cells #[.int .i64 ((rd_T25 l0 x12_1).f0), .int .i32 ((rd_T25 l0 x12_1).f1), .bool ((rd_T25 l0 x12_1).f2), .bool ((rd_T25 l0 x12_1).f3), .bool ((rd_T25 l0 x12_1).f4), .string ((rd_T25 l0 x12_1).f5)] 25 (0, 0)) (by apply_rules (transparency := .reducible) [BK203.1, bkN, bkD, bkA]) hb); have NB201_212 := aM ((by rw [hg]; exact Nat.ne_of_lt (IsS53.lt (show IsS53 w _ g201 t209 t210 t211 from by repeat (first | (with_reducible first | exact HI201.1 | apply IsS53.alloc | apply IsS53.drewN | apply IsS53.drew | apply IsS53.set_0 | apply IsS53.set_1 | apply IsS53.set_2 | refine IsS53.far ?_ NB201_203.1 _) | exact HI201.1))) : g201 ≠ gb212)); have NB212_201 := aM ((by rw [hg]; exact Nat.ne_of_gt (IsS53.lt (show IsS53 w _ g201 t209 t210 t211 from by repeat (first | (with_reducible first | exact HI201.1 | apply IsS53.alloc | apply IsS53.drewN | apply IsS53.drew | apply IsS53.set_0 | apply IsS53.set_1 | apply IsS53.set_2 | refine IsS53.far ?_ NB201_203.1 _) | exact HI201.1))) : gb212 ≠ g201)); replace HI201 := aM (IsS53.below (by repeat (first | (with_reducible first | exact HI201.1 | apply IsS53.alloc | apply IsS53.drewN | apply IsS53.drew | apply IsS53.set_0 | apply IsS53.set_1 | apply IsS53.set_2 | refine IsS53.far ?_ NB201_203.1 _) | exact HI201.1)) hb); clear hb hbox hg; have hnb24 := NB212_203.1; have hnc24 := NB203_212.1; have hnb25 := NB212_201.1; have hnc25 := NB201_212.1; obtain ⟨z26_0, z26_1, z26_2, z26_3, z26_4, z26_5, z26_6, z26_7⟩ := bx4 BK212.1))
    go_roundg k1
    case measure => have := HK1.out; omega
    case rel => exact ⟨(x4_1), (wrap64 (x12_1 + 1)), (t209), (t210), (t211), rfl, H', ⟨by have := HK1.out; omega⟩, ⟨by (with_reducible repeat first | apply Kd.R_alloc | apply Kd.R_drewN | apply Kd.R_drew); exact Kd.R_mono (Kd.R_far (p := ⟨gb212, 3, none⟩) (Kd.R_far (p := ⟨gb212, 2, none⟩) (Kd.R_far (p := ⟨gb212, 1, none⟩) (Kd.R_far (p := ⟨gb212, 0, none⟩) (Kd.R_mono HO_4.out (fun k_ hk => (⟨hk, hk.2⟩ : _ ∧ k_ ≠ gb212))) (fun _ hk => hk.2) (.int .i64 t204)) (fun _ hk => hk.2) (.int .i64 t205)) (fun _ hk => hk.2) (.string t206)) (fun _ hk => hk.2) (.int .u8 t207)) (fun _ hk => trivial)⟩, ⟨by repeat (first | (with_reducible first | exact HI201.1 | apply IsS53.alloc | apply IsS53.drewN | apply IsS53.drew | apply IsS53.set_0 | apply IsS53.set_1 | apply IsS53.set_2 | refine IsS53.far ?_ NB201_203.1 _ | refine IsS53.far ?_ NB201_212.1 _) | exact HI201.1)⟩, ⟨by apply_rules (transparency := .reducible) [HB.1, bwA, bwN, bwD, bwS, (IsS53.ge HI201.1), GE203.1, GE212.1]⟩⟩
   rw [if_neg c6] at H
   exact absurd H (by simp)
  rw [if_neg c5] at H
  exact absurd H (by simp)
 rw [if_neg c4] at H
 have c4b0 : decide (x12_1 < (l0.length : Int)) = false := decide_eq_false c4
 clear c4
 obtain rfl := Option.some.inj H
 go_wp2
 go_ret
 exact ⟨_, rfl, by (with_reducible repeat first | apply Kd.R_alloc | apply Kd.R_drewN | apply Kd.R_drew); exact HO_4.out, by apply_rules (transparency := .reducible) [HB.1, bwA, bwN, bwD, bwS, (IsS53.ge HI201.1)]⟩

/-! ### bodkinlaw19_binds: function 13 -/
def bodkinlaw19_binds.j0 : Nat → Bool → Option (Bool)
  | 0, _ => none
  | k + 1, x16 => if x16 = true then (some false) else ((bodkinlaw19_ctrl.f 81).bind fun bt241 => ((bodkinlaw19_ctrl.f 77).bind fun bt247 => ((bodkinlaw19_char.f 109 true).bind fun bt253 => ((bodkinlaw19_char.f 97 false).bind fun bt259 => ((bind_Commands.f k (([(⟨bt241.1, bt241.2.1, bt241.2.2.1, bt241.2.2.2.1, bt241.2.2.2.2.1, bt241.2.2.2.2.2⟩ : S25), (⟨bt247.1, bt247.2.1, bt247.2.2.1, bt247.2.2.2.1, bt247.2.2.2.2.1, bt247.2.2.2.2.2⟩ : S25), (⟨bt253.1, bt253.2.1, bt253.2.2.1, bt253.2.2.2.1, bt253.2.2.2.2.1, bt253.2.2.2.2.2⟩ : S25), (⟨bt259.1, bt259.2.1, bt259.2.2.1, bt259.2.2.2.1, bt259.2.2.2.2.1, bt259.2.2.2.2.2⟩ : S25)] : List (S25)))).bind fun t268 => (if (t268.length : Int) = 2 then (if 0 < (t268.length : Int) then (if (eqb36 ((rd_T36 t268 0).f0) 1 ((rd_T36 t268 0).f1) 1 ((rd_T36 t268 0).f2) (⟨#[13]⟩ : ByteArray) ((rd_T36 t268 0).f3) 0) = true then (if 1 < (t268.length : Int) then (some (eqb36 ((rd_T36 t268 1).f0) 29 ((rd_T36 t268 1).f1) 1 ((rd_T36 t268 1).f2) (⟨#[]⟩ : ByteArray) ((rd_T36 t268 1).f3) 97)) else (none)) else (some false)) else (none)) else (some false)))))))
def bodkinlaw19_binds.f (k : Nat)  : Option (Bool) := (bodkinlaw19_char.f 49 true).bind fun bt216 => ((bodkinlaw19_char.f 50 false).bind fun bt222 => ((bodkinlaw19_ctrl.f 70).bind fun bt228 => ((bind_Commands.f k (([(⟨bt216.1, bt216.2.1, bt216.2.2.1, bt216.2.2.2.1, bt216.2.2.2.2.1, bt216.2.2.2.2.2⟩ : S25), (⟨bt222.1, bt222.2.1, bt222.2.2.1, bt222.2.2.2.1, bt222.2.2.2.2.1, bt222.2.2.2.2.2⟩ : S25), (⟨bt228.1, bt228.2.1, bt228.2.2.1, bt228.2.2.2.1, bt228.2.2.2.2.1, bt228.2.2.2.2.2⟩ : S25)] : List (S25)))).bind fun t237 => (if (t237.length : Int) = 1 then (if 0 < (t237.length : Int) then (bodkinlaw19_binds.j0 k (!(eqb36 ((rd_T36 t237 0).f0) 5 ((rd_T36 t237 0).f1) 12 ((rd_T36 t237 0).f2) (⟨#[]⟩ : ByteArray) ((rd_T36 t237 0).f3) 0))) else (none)) else (bodkinlaw19_binds.j0 k true)))))
theorem bodkinlaw19_binds.mono_l : ∀ k, (∀ y0, LeO (bodkinlaw19_binds.j0 k y0) (bodkinlaw19_binds.j0 (k + 1) y0))
  | 0 => fun _ r h => by simp [bodkinlaw19_binds.j0] at h
  | k + 1 => by
    have ih0 := bodkinlaw19_binds.mono_l k
    · intro y0
      unfold bodkinlaw19_binds.j0
      repeat' first
      | (with_reducible exact ih0 _)
      | (with_reducible exact bind_Commands.mono _ _)
      | (with_reducible exact LeO.refl _)
      | (with_reducible exact LeO.none _)
      | (with_reducible refine LeO.ite ?_ ?_)
      | (with_reducible refine LeO.bind ?_ (fun _ => ?_))
      | exact ih0 _
      | exact bind_Commands.mono _ _
      | exact LeO.none _
      | refine LeO.ite ?_ ?_
      | refine LeO.bind ?_ (fun _ => ?_)
theorem bodkinlaw19_binds.mono : ∀ k, LeO (bodkinlaw19_binds.f k ) (bodkinlaw19_binds.f (k + 1) ) := by
 intro  k
 have ih0 := bodkinlaw19_binds.mono_l k
 unfold bodkinlaw19_binds.f
 repeat' first
   | (with_reducible exact ih0 _)
   | (with_reducible exact bind_Commands.mono _ _)
   | (with_reducible exact LeO.refl _)
   | (with_reducible exact LeO.none _)
   | (with_reducible refine LeO.ite ?_ ?_)
   | (with_reducible refine LeO.bind ?_ (fun _ => ?_))
   | exact ih0 _
   | exact bind_Commands.mono _ _
   | exact LeO.none _
   | refine LeO.ite ?_ ?_
   | refine LeO.bind ?_ (fun _ => ?_)
set_option maxHeartbeats 8000000 in
set_option maxRecDepth 100000 in
theorem bodkinlaw19_binds.calls (k : Nat)  (r : Bool) (w : World) (h : bodkinlaw19_binds.f k  = some r) :
    Calls Try.prog 13 #[] w fun e w' => e = .returned (.bool r) ∧ Below w.heap.size w w' := by
 have hu36 := Try.underlying36
 have HB := aM (Below.refl w.heap.size w)
 have H : ((bodkinlaw19_char.f 49 true).bind fun bt216 => ((bodkinlaw19_char.f 50 false).bind fun bt222 => ((bodkinlaw19_ctrl.f 70).bind fun bt228 => ((bind_Commands.f k (([(⟨bt216.1, bt216.2.1, bt216.2.2.1, bt216.2.2.2.1, bt216.2.2.2.2.1, bt216.2.2.2.2.2⟩ : S25), (⟨bt222.1, bt222.2.1, bt222.2.2.1, bt222.2.2.2.1, bt222.2.2.2.2.1, bt222.2.2.2.2.2⟩ : S25), (⟨bt228.1, bt228.2.1, bt228.2.2.1, bt228.2.2.2.1, bt228.2.2.2.2.1, bt228.2.2.2.2.2⟩ : S25)] : List (S25)))).bind fun t237 => (if (t237.length : Int) = 1 then (if 0 < (t237.length : Int) then (bodkinlaw19_binds.j0 k (!(eqb36 ((rd_T36 t237 0).f0) 5 ((rd_T36 t237 0).f1) 12 ((rd_T36 t237 0).f2) (⟨#[]⟩ : ByteArray) ((rd_T36 t237 0).f3) 0))) else (none)) else (bodkinlaw19_binds.j0 k true)))))) = some r := h
 clear h
 replace H := Option.bind_eq_some_iff.mp H
 obtain ⟨⟨t216, t217, t218, t219, t220, t221⟩, A10, H⟩ := H
 replace H : ((bodkinlaw19_char.f 50 false).bind fun bt222 => ((bodkinlaw19_ctrl.f 70).bind fun bt228 => ((bind_Commands.f k (([(⟨t216, t217, t218, t219, t220, t221⟩ : S25), (⟨bt222.1, bt222.2.1, bt222.2.2.1, bt222.2.2.2.1, bt222.2.2.2.2.1, bt222.2.2.2.2.2⟩ : S25), (⟨bt228.1, bt228.2.1, bt228.2.2.1, bt228.2.2.2.1, bt228.2.2.2.2.1, bt228.2.2.2.2.2⟩ : S25)] : List (S25)))).bind fun t237 => (if (t237.length : Int) = 1 then (if 0 < (t237.length : Int) then (bodkinlaw19_binds.j0 k (!(eqb36 ((rd_T36 t237 0).f0) 5 ((rd_T36 t237 0).f1) 12 ((rd_T36 t237 0).f2) (⟨#[]⟩ : ByteArray) ((rd_T36 t237 0).f3) 0))) else (none)) else (bodkinlaw19_binds.j0 k true))))) = some r := H
 have A1 := aM A10
 clear A10
 replace H := Option.bind_eq_some_iff.mp H
 obtain ⟨⟨t222, t223, t224, t225, t226, t227⟩, A20, H⟩ := H
 replace H : ((bodkinlaw19_ctrl.f 70).bind fun bt228 => ((bind_Commands.f k (([(⟨t216, t217, t218, t219, t220, t221⟩ : S25), (⟨t222, t223, t224, t225, t226, t227⟩ : S25), (⟨bt228.1, bt228.2.1, bt228.2.2.1, bt228.2.2.2.1, bt228.2.2.2.2.1, bt228.2.2.2.2.2⟩ : S25)] : List (S25)))).bind fun t237 => (if (t237.length : Int) = 1 then (if 0 < (t237.length : Int) then (bodkinlaw19_binds.j0 k (!(eqb36 ((rd_T36 t237 0).f0) 5 ((rd_T36 t237 0).f1) 12 ((rd_T36 t237 0).f2) (⟨#[]⟩ : ByteArray) ((rd_T36 t237 0).f3) 0))) else (none)) else (bodkinlaw19_binds.j0 k true)))) = some r := H
 have A2 := aM A20
 clear A20
 replace H := Option.bind_eq_some_iff.mp H
 obtain ⟨⟨t228, t229, t230, t231, t232, t233⟩, A30, H⟩ := H
 replace H : ((bind_Commands.f k (([(⟨t216, t217, t218, t219, t220, t221⟩ : S25), (⟨t222, t223, t224, t225, t226, t227⟩ : S25), (⟨t228, t229, t230, t231, t232, t233⟩ : S25)] : List (S25)))).bind fun t237 => (if (t237.length : Int) = 1 then (if 0 < (t237.length : Int) then (bodkinlaw19_binds.j0 k (!(eqb36 ((rd_T36 t237 0).f0) 5 ((rd_T36 t237 0).f1) 12 ((rd_T36 t237 0).f2) (⟨#[]⟩ : ByteArray) ((rd_T36 t237 0).f3) 0))) else (none)) else (bodkinlaw19_binds.j0 k true))) = some r := H
 have A3 := aM A30
 clear A30
 obtain ⟨y234, hy234⟩ : ∃ y_ : List (S25), y_ = (([(⟨t216, t217, t218, t219, t220, t221⟩ : S25), (⟨t222, t223, t224, t225, t226, t227⟩ : S25), (⟨t228, t229, t230, t231, t232, t233⟩ : S25)] : List (S25))) := ⟨_, rfl⟩
 replace H : ((bind_Commands.f k y234).bind fun t237 => (if (t237.length : Int) = 1 then (if 0 < (t237.length : Int) then (bodkinlaw19_binds.j0 k (!(eqb36 ((rd_T36 t237 0).f0) 5 ((rd_T36 t237 0).f1) 12 ((rd_T36 t237 0).f2) (⟨#[]⟩ : ByteArray) ((rd_T36 t237 0).f3) 0))) else (none)) else (bodkinlaw19_binds.j0 k true))) = some r := by first | (rw [hy234]; with_reducible exact H) | (have H2_ := (Option.bind_some _ _).symm.trans H; rw [hy234]; with_reducible exact H2_) | (have H2_ := (Option.bind_some _ _).symm.trans H; with_reducible exact H2_) | with_reducible exact H | (rw [hy234]; exact H) | exact H
 have Ny234 := aM hy234
 clear hy234
 replace H := Option.bind_eq_some_iff.mp H
 obtain ⟨t237, A40, H⟩ := H
 replace H : (if (t237.length : Int) = 1 then (if 0 < (t237.length : Int) then (bodkinlaw19_binds.j0 k (!(eqb36 ((rd_T36 t237 0).f0) 5 ((rd_T36 t237 0).f1) 12 ((rd_T36 t237 0).f2) (⟨#[]⟩ : ByteArray) ((rd_T36 t237 0).f3) 0))) else (none)) else (bodkinlaw19_binds.j0 k true)) = some r := H
 have A4 := aM A40
 clear A40
 have HC5 := aM H
 clear H
 go_enter Try.func13, Try.ntmps13
 go_upto_region 2 with (first | ((with_reducible refine gate_callee (f := 15) rfl ?_); refine goesL_ (some 2) rfl rfl Try.func15 (by kernel_rfl) rfl #[.int .i32 49, .bool true] rfl (by (try simp only [List.map_toArray, List.map_cons, List.map_nil]); first | done | rfl) ?_; (with_reducible refine (bodkinlaw19_char.calls 49 true t216 t217 t218 t219 t220 t221 _ A1.1).mono ?_); rintro e w6 ⟨rfl, hb⟩; refine ⟨_, rfl, ?_⟩; replace HB := aM (bwP (by apply_rules (transparency := .reducible) [HB.1, bwA, bwN, bwD]) hb); (try clear hb); (try clear hb2); (try clear hk); (try clear hi)) | ((with_reducible refine gate_callee (f := 15) rfl ?_); refine goesL_ (some 3) rfl rfl Try.func15 (by kernel_rfl) rfl #[.int .i32 50, .bool false] rfl (by (try simp only [List.map_toArray, List.map_cons, List.map_nil]); first | done | rfl) ?_; (with_reducible refine (bodkinlaw19_char.calls 50 false t222 t223 t224 t225 t226 t227 _ A2.1).mono ?_); rintro e w7 ⟨rfl, hb⟩; refine ⟨_, rfl, ?_⟩; replace HB := aM (bwP (by apply_rules (transparency := .reducible) [HB.1, bwA, bwN, bwD]) hb); (try clear hb); (try clear hb2); (try clear hk); (try clear hi)) | ((with_reducible refine gate_callee (f := 14) rfl ?_); refine goesL_ (some 4) rfl rfl Try.func14 (by kernel_rfl) rfl #[.int .i32 70] rfl (by (try simp only [List.map_toArray, List.map_cons, List.map_nil]); first | done | rfl) ?_; (with_reducible refine (bodkinlaw19_ctrl.calls 70 t228 t229 t230 t231 t232 t233 _ A3.1).mono ?_); rintro e w8 ⟨rfl, hb⟩; refine ⟨_, rfl, ?_⟩; replace HB := aM (bwP (by apply_rules (transparency := .reducible) [HB.1, bwA, bwN, bwD]) hb); (try clear hb); (try clear hb2); (try clear hk); (try clear hi)) | ((with_reducible refine gate_dst (N := 5) rfl ?_); refine Kd.R_lit k25 _ 25 ?hg (N := 5) ?hd (xs := ([(⟨t216, t217, t218, t219, t220, t221⟩ : S25), (⟨t222, t223, t224, t225, t226, t227⟩ : S25), (⟨t228, t229, t230, t231, t232, t233⟩ : S25)] : List (S25))) (inner := [.int .i64 t216, .int .i32 t217, .bool t218, .bool t219, .bool t220, .string t221, .int .i64 t222, .int .i32 t223, .bool t224, .bool t225, .bool t226, .string t227, .int .i64 t228, .int .i32 t229, .bool t230, .bool t231, .bool t232, .string t233]) (ok := fun _ => True) (okp := fun _ => True) ?hr ?hp (fun _ hk => hk) trivial (Below.refl _ _) (Nat.le_refl _) (by simp) ?_; (case hd => rfl); (case hg => rfl); (case hr => first | (go_simp; done) | (go_simp; rfl)); (case hp => exact (Reps.c6 (show Kd.M k25 _ _ _ (⟨t216, t217, t218, t219, t220, t221⟩ : S25) [.int .i64 t216, .int .i32 t217, .bool t218, .bool t219, .bool t220, .string t221] from (k25_mkM _ _ _ (⟨t216, t217, t218, t219, t220, t221⟩ : S25) )) (Reps.c6 (show Kd.M k25 _ _ _ (⟨t222, t223, t224, t225, t226, t227⟩ : S25) [.int .i64 t222, .int .i32 t223, .bool t224, .bool t225, .bool t226, .string t227] from (k25_mkM _ _ _ (⟨t222, t223, t224, t225, t226, t227⟩ : S25) )) (Reps.c6 (show Kd.M k25 _ _ _ (⟨t228, t229, t230, t231, t232, t233⟩ : S25) [.int .i64 t228, .int .i32 t229, .bool t230, .bool t231, .bool t232, .string t233] from (k25_mkM _ _ _ (⟨t228, t229, t230, t231, t232, t233⟩ : S25) )) (Reps.none _ _))))); intro v235 w9 ho10 hb hg_ hnew_; clear hg_ hnew_; (first | rw [← Ny234.1] at ho10 | (simp only [Int.reduceToNat] at ho10; rw [← Ny234.1] at ho10)); have HO236 := aM (Kd.R_lower ho10 (bwZ (by apply_rules (transparency := .reducible) [HB.1, bwA, bwN, bwD]))); replace HB := aM (bwP (by apply_rules (transparency := .reducible) [HB.1, bwA, bwN, bwD]) hb); clear hb ho10; obtain ⟨Ao11, co11, eo11⟩ := Kd.R_slice HO236.1; subst eo11) | ((with_reducible refine gate_callee (f := 17) rfl ?_); refine goesL_ (some 6) rfl rfl Try.func17 (by kernel_rfl) rfl #[.slice Ao11 y234.length co11] rfl (by (try simp only [List.map_toArray, List.map_cons, List.map_nil]); first | done | rfl) ?_; (with_reducible refine (bind_Commands.calls k _ _ y234 t237 _ ?side1 ?side2 A4.1).mono ?_); (case side1 => repeat (first | exact (Kd.R_reads' HO236.1).2.2 | (with_reducible refine Kd.C_alloc ?_ _) | (with_reducible refine Kd.C_drewN ?_ _) | (with_reducible refine Kd.C_drew ?_))); (case side2 => exact (Kd.R_reads' HO236.1).2.1); rintro e w12 ⟨v238, rfl, ho0, hb⟩; refine ⟨_, rfl, ?_⟩; replace HO236 := aM (Kd.R_below (by (with_reducible repeat first | apply Kd.R_alloc | apply Kd.R_drewN | apply Kd.R_drew); exact HO236.1) hb); have HO239 := aM (Kd.R_lower ho0 (bwZ (by apply_rules (transparency := .reducible) [HB.1, bwA, bwN, bwD]))); replace HB := aM (bwP (by apply_rules (transparency := .reducible) [HB.1, bwA, bwN, bwD]) hb); (try clear hb); (try clear hb2); (try clear hk); (try clear hi); (try clear ho0)))
 (try simp only [Act.put, List.setIfInBounds_toArray, List.set_cons_zero, List.set_cons_succ])
 go_cut [16] (fun v16 wc => ∃ (kq : Nat) (x16_4 : Bool), v16 = .bool x16_4 ∧ Aside0 (bodkinlaw19_binds.j0 kq x16_4 = some r) ∧ Aside0 (kq ≤ k) ∧ Aside0 (Below w.heap.size w wc))
 case first =>
  have H := HC5.1
  clear HC5
  by_cases c13 : (t237.length : Int) = 1
  ·rw [if_pos c13] at H
   have c13b0 : ((t237.length : Int) == 1) = true := beq_iff_eq.mpr c13
   have c13b1 : ((t237.length : Int) != 1) = false := bne_eq_false_iff_eq.mpr c13
   clear c13
   (first | rw [c13b0] | (simp only [i64_w, i32_w]; rw [c13b0]) | skip)
   by_cases c14 : 0 < (t237.length : Int)
   ·rw [if_pos c14] at H
    have c14b0 : decide (0 < (t237.length : Int)) = true := decide_eq_true c14
    have c14b1 : decide (0 < t237.length) = true := decide_eq_true (by omega)
    clear c14
    have H' := aM H
    clear H
    obtain ⟨Ao15, co15, eo15⟩ := Kd.R_slice HO239.1
    subst eo15
    have p240 : 0 ≤ (0 : Int) := (by omega)
    have q240 : 0 < (t237.length : Int) := of_decide_eq_true (by first | (with_reducible assumption) | assumption)
    obtain ⟨ad240, e240, hx240_0, hx240_1, hx240_2, hx240_3⟩ := at_T36 (Kd.R_reads' HO239.1).2.2 0 p240 q240
    cases e240
    have qi240 : (0 < t237.length) = True := eq_true (by omega)
    (try rw [show ((0 : Int)).toNat = 0 from rfl] at hx240_0)
    (try rw [show 0 * 4 = 0 from rfl] at hx240_0)
    (try rw [Addr.add_zero'] at hx240_0)
    (try rw [show ((0 : Int)).toNat = 0 from rfl] at hx240_1)
    (try rw [show 0 * 4 = 0 from rfl] at hx240_1)
    (try rw [Addr.add_zero'] at hx240_1)
    (try rw [show ((0 : Int)).toNat = 0 from rfl] at hx240_2)
    (try rw [show 0 * 4 = 0 from rfl] at hx240_2)
    (try rw [Addr.add_zero'] at hx240_2)
    (try rw [show ((0 : Int)).toNat = 0 from rfl] at hx240_3)
    (try rw [show 0 * 4 = 0 from rfl] at hx240_3)
    (try rw [Addr.add_zero'] at hx240_3)
    replace p240 := eq_true p240
    replace q240 := eq_true q240
    go_wp2
    go_meet
    case rel => exact ⟨_, ((!(eqb36 ((rd_T36 t237 0).f0) 5 ((rd_T36 t237 0).f1) 12 ((rd_T36 t237 0).f2) (⟨#[]⟩ : ByteArray) ((rd_T36 t237 0).f3) 0))), rfl, H', ⟨by omega⟩, ⟨by apply_rules (transparency := .reducible) [HB.1, bwA, bwN, bwD]⟩⟩
   rw [if_neg c14] at H
   exact absurd H (by simp)
  rw [if_neg c13] at H
  have c13b0 : ((t237.length : Int) == 1) = false := beq_eq_false_iff_ne.mpr c13
  have c13b1 : ((t237.length : Int) != 1) = true := bne_iff_ne.mpr c13
  (first | rw [c13b0] | (simp only [i64_w, i32_w]; rw [c13b0]) | skip)
  have H' := aM H
  clear H
  obtain ⟨Ao16, co16, eo16⟩ := Kd.R_slice HO239.1
  subst eo16
  go_wp2
  go_meet
  case rel => exact ⟨_, (true), rfl, H', ⟨by omega⟩, ⟨by apply_rules (transparency := .reducible) [HB.1, bwA, bwN, bwD]⟩⟩
 clear HC5
 try clear c6
 obtain ⟨kq, x16_4, rfl, HA, HJ4, HB⟩ := hcut
 obtain _ | kj4 := kq
 ·exact absurd HA.1 (by simp [bodkinlaw19_binds.j0])
 have H := HA.1
 clear HA
 simp only [bodkinlaw19_binds.j0] at H
 by_cases c17 : x16_4 = true
 ·subst c17
  replace H : (some false) = some r := by rw [if_pos rfl] at H; exact H
  obtain rfl := Option.some.inj H
  go_wp2
  go_ret
  exact ⟨rfl, by apply_rules (transparency := .reducible) [HB.1, bwA, bwN, bwD]⟩
 replace c17 := Bool.eq_false_iff.mpr c17
 subst c17
 replace H : ((bodkinlaw19_ctrl.f 81).bind fun bt241 => ((bodkinlaw19_ctrl.f 77).bind fun bt247 => ((bodkinlaw19_char.f 109 true).bind fun bt253 => ((bodkinlaw19_char.f 97 false).bind fun bt259 => ((bind_Commands.f kj4 (([(⟨bt241.1, bt241.2.1, bt241.2.2.1, bt241.2.2.2.1, bt241.2.2.2.2.1, bt241.2.2.2.2.2⟩ : S25), (⟨bt247.1, bt247.2.1, bt247.2.2.1, bt247.2.2.2.1, bt247.2.2.2.2.1, bt247.2.2.2.2.2⟩ : S25), (⟨bt253.1, bt253.2.1, bt253.2.2.1, bt253.2.2.2.1, bt253.2.2.2.2.1, bt253.2.2.2.2.2⟩ : S25), (⟨bt259.1, bt259.2.1, bt259.2.2.1, bt259.2.2.2.1, bt259.2.2.2.2.1, bt259.2.2.2.2.2⟩ : S25)] : List (S25)))).bind fun t268 => (if (t268.length : Int) = 2 then (if 0 < (t268.length : Int) then (if (eqb36 ((rd_T36 t268 0).f0) 1 ((rd_T36 t268 0).f1) 1 ((rd_T36 t268 0).f2) (⟨#[13]⟩ : ByteArray) ((rd_T36 t268 0).f3) 0) = true then (if 1 < (t268.length : Int) then (some (eqb36 ((rd_T36 t268 1).f0) 29 ((rd_T36 t268 1).f1) 1 ((rd_T36 t268 1).f2) (⟨#[]⟩ : ByteArray) ((rd_T36 t268 1).f3) 97)) else (none)) else (some false)) else (none)) else (some false))))))) = some r := by rw [if_neg (show ¬ (false = true) by decide)] at H; exact H
 replace H := Option.bind_eq_some_iff.mp H
 obtain ⟨⟨t241, t242, t243, t244, t245, t246⟩, A180, H⟩ := H
 replace H : ((bodkinlaw19_ctrl.f 77).bind fun bt247 => ((bodkinlaw19_char.f 109 true).bind fun bt253 => ((bodkinlaw19_char.f 97 false).bind fun bt259 => ((bind_Commands.f kj4 (([(⟨t241, t242, t243, t244, t245, t246⟩ : S25), (⟨bt247.1, bt247.2.1, bt247.2.2.1, bt247.2.2.2.1, bt247.2.2.2.2.1, bt247.2.2.2.2.2⟩ : S25), (⟨bt253.1, bt253.2.1, bt253.2.2.1, bt253.2.2.2.1, bt253.2.2.2.2.1, bt253.2.2.2.2.2⟩ : S25), (⟨bt259.1, bt259.2.1, bt259.2.2.1, bt259.2.2.2.1, bt259.2.2.2.2.1, bt259.2.2.2.2.2⟩ : S25)] : List (S25)))).bind fun t268 => (if (t268.length : Int) = 2 then (if 0 < (t268.length : Int) then (if (eqb36 ((rd_T36 t268 0).f0) 1 ((rd_T36 t268 0).f1) 1 ((rd_T36 t268 0).f2) (⟨#[13]⟩ : ByteArray) ((rd_T36 t268 0).f3) 0) = true then (if 1 < (t268.length : Int) then (some (eqb36 ((rd_T36 t268 1).f0) 29 ((rd_T36 t268 1).f1) 1 ((rd_T36 t268 1).f2) (⟨#[]⟩ : ByteArray) ((rd_T36 t268 1).f3) 97)) else (none)) else (some false)) else (none)) else (some false)))))) = some r := H
 have A18 := aM A180
 clear A180
 replace H := Option.bind_eq_some_iff.mp H
 obtain ⟨⟨t247, t248, t249, t250, t251, t252⟩, A190, H⟩ := H
 replace H : ((bodkinlaw19_char.f 109 true).bind fun bt253 => ((bodkinlaw19_char.f 97 false).bind fun bt259 => ((bind_Commands.f kj4 (([(⟨t241, t242, t243, t244, t245, t246⟩ : S25), (⟨t247, t248, t249, t250, t251, t252⟩ : S25), (⟨bt253.1, bt253.2.1, bt253.2.2.1, bt253.2.2.2.1, bt253.2.2.2.2.1, bt253.2.2.2.2.2⟩ : S25), (⟨bt259.1, bt259.2.1, bt259.2.2.1, bt259.2.2.2.1, bt259.2.2.2.2.1, bt259.2.2.2.2.2⟩ : S25)] : List (S25)))).bind fun t268 => (if (t268.length : Int) = 2 then (if 0 < (t268.length : Int) then (if (eqb36 ((rd_T36 t268 0).f0) 1 ((rd_T36 t268 0).f1) 1 ((rd_T36 t268 0).f2) (⟨#[13]⟩ : ByteArray) ((rd_T36 t268 0).f3) 0) = true then (if 1 < (t268.length : Int) then (some (eqb36 ((rd_T36 t268 1).f0) 29 ((rd_T36 t268 1).f1) 1 ((rd_T36 t268 1).f2) (⟨#[]⟩ : ByteArray) ((rd_T36 t268 1).f3) 97)) else (none)) else (some false)) else (none)) else (some false))))) = some r := H
 have A19 := aM A190
 clear A190
 replace H := Option.bind_eq_some_iff.mp H
 obtain ⟨⟨t253, t254, t255, t256, t257, t258⟩, A200, H⟩ := H
 replace H : ((bodkinlaw19_char.f 97 false).bind fun bt259 => ((bind_Commands.f kj4 (([(⟨t241, t242, t243, t244, t245, t246⟩ : S25), (⟨t247, t248, t249, t250, t251, t252⟩ : S25), (⟨t253, t254, t255, t256, t257, t258⟩ : S25), (⟨bt259.1, bt259.2.1, bt259.2.2.1, bt259.2.2.2.1, bt259.2.2.2.2.1, bt259.2.2.2.2.2⟩ : S25)] : List (S25)))).bind fun t268 => (if (t268.length : Int) = 2 then (if 0 < (t268.length : Int) then (if (eqb36 ((rd_T36 t268 0).f0) 1 ((rd_T36 t268 0).f1) 1 ((rd_T36 t268 0).f2) (⟨#[13]⟩ : ByteArray) ((rd_T36 t268 0).f3) 0) = true then (if 1 < (t268.length : Int) then (some (eqb36 ((rd_T36 t268 1).f0) 29 ((rd_T36 t268 1).f1) 1 ((rd_T36 t268 1).f2) (⟨#[]⟩ : ByteArray) ((rd_T36 t268 1).f3) 97)) else (none)) else (some false)) else (none)) else (some false)))) = some r := H
 have A20 := aM A200
 clear A200
 replace H := Option.bind_eq_some_iff.mp H
 obtain ⟨⟨t259, t260, t261, t262, t263, t264⟩, A210, H⟩ := H
 replace H : ((bind_Commands.f kj4 (([(⟨t241, t242, t243, t244, t245, t246⟩ : S25), (⟨t247, t248, t249, t250, t251, t252⟩ : S25), (⟨t253, t254, t255, t256, t257, t258⟩ : S25), (⟨t259, t260, t261, t262, t263, t264⟩ : S25)] : List (S25)))).bind fun t268 => (if (t268.length : Int) = 2 then (if 0 < (t268.length : Int) then (if (eqb36 ((rd_T36 t268 0).f0) 1 ((rd_T36 t268 0).f1) 1 ((rd_T36 t268 0).f2) (⟨#[13]⟩ : ByteArray) ((rd_T36 t268 0).f3) 0) = true then (if 1 < (t268.length : Int) then (some (eqb36 ((rd_T36 t268 1).f0) 29 ((rd_T36 t268 1).f1) 1 ((rd_T36 t268 1).f2) (⟨#[]⟩ : ByteArray) ((rd_T36 t268 1).f3) 97)) else (none)) else (some false)) else (none)) else (some false))) = some r := H
 have A21 := aM A210
 clear A210
 obtain ⟨y265, hy265⟩ : ∃ y_ : List (S25), y_ = (([(⟨t241, t242, t243, t244, t245, t246⟩ : S25), (⟨t247, t248, t249, t250, t251, t252⟩ : S25), (⟨t253, t254, t255, t256, t257, t258⟩ : S25), (⟨t259, t260, t261, t262, t263, t264⟩ : S25)] : List (S25))) := ⟨_, rfl⟩
 replace H : ((bind_Commands.f kj4 y265).bind fun t268 => (if (t268.length : Int) = 2 then (if 0 < (t268.length : Int) then (if (eqb36 ((rd_T36 t268 0).f0) 1 ((rd_T36 t268 0).f1) 1 ((rd_T36 t268 0).f2) (⟨#[13]⟩ : ByteArray) ((rd_T36 t268 0).f3) 0) = true then (if 1 < (t268.length : Int) then (some (eqb36 ((rd_T36 t268 1).f0) 29 ((rd_T36 t268 1).f1) 1 ((rd_T36 t268 1).f2) (⟨#[]⟩ : ByteArray) ((rd_T36 t268 1).f3) 97)) else (none)) else (some false)) else (none)) else (some false))) = some r := by first | (rw [hy265]; with_reducible exact H) | (have H2_ := (Option.bind_some _ _).symm.trans H; rw [hy265]; with_reducible exact H2_) | (have H2_ := (Option.bind_some _ _).symm.trans H; with_reducible exact H2_) | with_reducible exact H | (rw [hy265]; exact H) | exact H
 have Ny265 := aM hy265
 clear hy265
 replace H := Option.bind_eq_some_iff.mp H
 obtain ⟨t268, A220, H⟩ := H
 replace H : (if (t268.length : Int) = 2 then (if 0 < (t268.length : Int) then (if (eqb36 ((rd_T36 t268 0).f0) 1 ((rd_T36 t268 0).f1) 1 ((rd_T36 t268 0).f2) (⟨#[13]⟩ : ByteArray) ((rd_T36 t268 0).f3) 0) = true then (if 1 < (t268.length : Int) then (some (eqb36 ((rd_T36 t268 1).f0) 29 ((rd_T36 t268 1).f1) 1 ((rd_T36 t268 1).f2) (⟨#[]⟩ : ByteArray) ((rd_T36 t268 1).f3) 97)) else (none)) else (some false)) else (none)) else (some false)) = some r := H
 have A22 := aM A220
 clear A220
 by_cases c23 : (t268.length : Int) = 2
 ·rw [if_pos c23] at H
  have c23b0 : ((t268.length : Int) == 2) = true := beq_iff_eq.mpr c23
  have c23b1 : ((t268.length : Int) != 2) = false := bne_eq_false_iff_eq.mpr c23
  clear c23
  by_cases c24 : 0 < (t268.length : Int)
  ·rw [if_pos c24] at H
   have c24b0 : decide (0 < (t268.length : Int)) = true := decide_eq_true c24
   have c24b1 : decide (0 < t268.length) = true := decide_eq_true (by omega)
   clear c24
   by_cases c25 : (eqb36 ((rd_T36 t268 0).f0) 1 ((rd_T36 t268 0).f1) 1 ((rd_T36 t268 0).f2) (⟨#[13]⟩ : ByteArray) ((rd_T36 t268 0).f3) 0) = true
   ·rw [if_pos c25] at H
    have c25b0 : (eqb36 ((rd_T36 t268 0).f0) 1 ((rd_T36 t268 0).f1) 1 ((rd_T36 t268 0).f2) (⟨#[13]⟩ : ByteArray) ((rd_T36 t268 0).f3) 0) = true := c25
    clear c25
    by_cases c26 : 1 < (t268.length : Int)
    ·rw [if_pos c26] at H
     have c26b0 : decide (1 < (t268.length : Int)) = true := decide_eq_true c26
     have c26b1 : decide (1 < t268.length) = true := decide_eq_true (by omega)
     clear c26
     obtain rfl := Option.some.inj H
     go_wp2_with (first | ((with_reducible refine gate_callee (f := 14) rfl ?_); refine goesL_ (some 17) rfl rfl Try.func14 (by kernel_rfl) rfl #[.int .i32 81] rfl (by (try simp only [List.map_toArray, List.map_cons, List.map_nil]); first | done | rfl) ?_; (with_reducible refine (bodkinlaw19_ctrl.calls 81 t241 t242 t243 t244 t245 t246 _ A18.1).mono ?_); rintro e w27 ⟨rfl, hb⟩; refine ⟨_, rfl, ?_⟩; replace HB := aM (bwP (by apply_rules (transparency := .reducible) [HB.1, bwA, bwN, bwD]) hb); (try clear hb); (try clear hb2); (try clear hk); (try clear hi)) | ((with_reducible refine gate_callee (f := 14) rfl ?_); refine goesL_ (some 18) rfl rfl Try.func14 (by kernel_rfl) rfl #[.int .i32 77] rfl (by (try simp only [List.map_toArray, List.map_cons, List.map_nil]); first | done | rfl) ?_; (with_reducible refine (bodkinlaw19_ctrl.calls 77 t247 t248 t249 t250 t251 t252 _ A19.1).mono ?_); rintro e w28 ⟨rfl, hb⟩; refine ⟨_, rfl, ?_⟩; replace HB := aM (bwP (by apply_rules (transparency := .reducible) [HB.1, bwA, bwN, bwD]) hb); (try clear hb); (try clear hb2); (try clear hk); (try clear hi)) | ((with_reducible refine gate_callee (f := 15) rfl ?_); refine goesL_ (some 19) rfl rfl Try.func15 (by kernel_rfl) rfl #[.int .i32 109, .bool true] rfl (by (try simp only [List.map_toArray, List.map_cons, List.map_nil]); first | done | rfl) ?_; (with_reducible refine (bodkinlaw19_char.calls 109 true t253 t254 t255 t256 t257 t258 _ A20.1).mono ?_); rintro e w29 ⟨rfl, hb⟩; refine ⟨_, rfl, ?_⟩; replace HB := aM (bwP (by apply_rules (transparency := .reducible) [HB.1, bwA, bwN, bwD]) hb); (try clear hb); (try clear hb2); (try clear hk); (try clear hi)) | ((with_reducible refine gate_callee (f := 15) rfl ?_); refine goesL_ (some 20) rfl rfl Try.func15 (by kernel_rfl) rfl #[.int .i32 97, .bool false] rfl (by (try simp only [List.map_toArray, List.map_cons, List.map_nil]); first | done | rfl) ?_; (with_reducible refine (bodkinlaw19_char.calls 97 false t259 t260 t261 t262 t263 t264 _ A21.1).mono ?_); rintro e w30 ⟨rfl, hb⟩; refine ⟨_, rfl, ?_⟩; replace HB := aM (bwP (by apply_rules (transparency := .reducible) [HB.1, bwA, bwN, bwD]) hb); (try clear hb); (try clear hb2); (try clear hk); (try clear hi)) | ((with_reducible refine gate_dst (N := 21) rfl ?_); refine Kd.R_lit k25 _ 25 ?hg (N := 21) ?hd (xs := ([(⟨t241, t242, t243, t244, t245, t246⟩ : S25), (⟨t247, t248, t249, t250, t251, t252⟩ : S25), (⟨t253, t254, t255, t256, t257, t258⟩ : S25), (⟨t259, t260, t261, t262, t263, t264⟩ : S25)] : List (S25))) (inner := [.int .i64 t241, .int .i32 t242, .bool t243, .bool t244, .bool t245, .string t246, .int .i64 t247, .int .i32 t248, .bool t249, .bool t250, .bool t251, .string t252, .int .i64 t253, .int .i32 t254, .bool t255, .bool t256, .bool t257, .string t258, .int .i64 t259, .int .i32 t260, .bool t261, .bool t262, .bool t263, .string t264]) (ok := fun _ => True) (okp := fun _ => True) ?hr ?hp (fun _ hk => hk) trivial (Below.refl _ _) (Nat.le_refl _) (by simp) ?_; (case hd => rfl); (case hg => rfl); (case hr => first | (go_simp; done) | (go_simp; rfl)); (case hp => exact (Reps.c6 (show Kd.M k25 _ _ _ (⟨t241, t242, t243, t244, t245, t246⟩ : S25) [.int .i64 t241, .int .i32 t242, .bool t243, .bool t244, .bool t245, .string t246] from (k25_mkM _ _ _ (⟨t241, t242, t243, t244, t245, t246⟩ : S25) )) (Reps.c6 (show Kd.M k25 _ _ _ (⟨t247, t248, t249, t250, t251, t252⟩ : S25) [.int .i64 t247, .int .i32 t248, .bool t249, .bool t250, .bool t251, .string t252] from (k25_mkM _ _ _ (⟨t247, t248, t249, t250, t251, t252⟩ : S25) )) (Reps.c6 (show Kd.M k25 _ _ _ (⟨t253, t254, t255, t256, t257, t258⟩ : S25) [.int .i64 t253, .int .i32 t254, .bool t255, .bool t256, .bool t257, .string t258] from (k25_mkM _ _ _ (⟨t253, t254, t255, t256, t257, t258⟩ : S25) )) (Reps.c6 (show Kd.M k25 _ _ _ (⟨t259, t260, t261, t262, t263, t264⟩ : S25) [.int .i64 t259, .int .i32 t260, .bool t261, .bool t262, .bool t263, .string t264] from (k25_mkM _ _ _ (⟨t259, t260, t261, t262, t263, t264⟩ : S25) )) (Reps.none _ _)))))); intro v266 w31 ho32 hb hg_ hnew_; clear hg_ hnew_; (first | rw [← Ny265.1] at ho32 | (simp only [Int.reduceToNat] at ho32; rw [← Ny265.1] at ho32)); have HO267 := aM (Kd.R_lower ho32 (bwZ (by apply_rules (transparency := .reducible) [HB.1, bwA, bwN, bwD]))); replace HB := aM (bwP (by apply_rules (transparency := .reducible) [HB.1, bwA, bwN, bwD]) hb); clear hb ho32; obtain ⟨Ao33, co33, eo33⟩ := Kd.R_slice HO267.1; subst eo33) | ((with_reducible refine gate_callee (f := 17) rfl ?_); refine goesL_ (some 22) rfl rfl Try.func17 (by kernel_rfl) rfl #[.slice Ao33 y265.length co33] rfl (by (try simp only [List.map_toArray, List.map_cons, List.map_nil]); first | done | rfl) ?_; (with_reducible refine (bind_Commands.calls kj4 _ _ y265 t268 _ ?side1 ?side2 A22.1).mono ?_); (case side1 => repeat (first | exact (Kd.R_reads' HO267.1).2.2 | (with_reducible refine Kd.C_alloc ?_ _) | (with_reducible refine Kd.C_drewN ?_ _) | (with_reducible refine Kd.C_drew ?_))); (case side2 => exact (Kd.R_reads' HO267.1).2.1); rintro e w34 ⟨v269, rfl, ho0, hb⟩; refine ⟨_, rfl, ?_⟩; replace HO267 := aM (Kd.R_below (by (with_reducible repeat first | apply Kd.R_alloc | apply Kd.R_drewN | apply Kd.R_drew); exact HO267.1) hb); have HO270 := aM (Kd.R_lower ho0 (bwZ (by apply_rules (transparency := .reducible) [HB.1, bwA, bwN, bwD]))); replace HB := aM (bwP (by apply_rules (transparency := .reducible) [HB.1, bwA, bwN, bwD]) hb); (try clear hb); (try clear hb2); (try clear hk); (try clear hi); (try clear ho0); obtain ⟨Ao35, co35, eo35⟩ := Kd.R_slice HO270.1; subst eo35; have p271 : 0 ≤ (0 : Int) := (by omega); have q271 : 0 < (t268.length : Int) := of_decide_eq_true (by first | (with_reducible assumption) | assumption); obtain ⟨ad271, e271, hx271_0, hx271_1, hx271_2, hx271_3⟩ := at_T36 (Kd.R_reads' HO270.1).2.2 0 p271 q271; cases e271; have qi271 : (0 < t268.length) = True := eq_true (by omega); (try rw [show ((0 : Int)).toNat = 0 from rfl] at hx271_0); (try rw [show 0 * 4 = 0 from rfl] at hx271_0); (try rw [Addr.add_zero'] at hx271_0); (try rw [show ((0 : Int)).toNat = 0 from rfl] at hx271_1); (try rw [show 0 * 4 = 0 from rfl] at hx271_1); (try rw [Addr.add_zero'] at hx271_1); (try rw [show ((0 : Int)).toNat = 0 from rfl] at hx271_2); (try rw [show 0 * 4 = 0 from rfl] at hx271_2); (try rw [Addr.add_zero'] at hx271_2); (try rw [show ((0 : Int)).toNat = 0 from rfl] at hx271_3); (try rw [show 0 * 4 = 0 from rfl] at hx271_3); (try rw [Addr.add_zero'] at hx271_3); replace p271 := eq_true p271; replace q271 := eq_true q271; have p272 : 0 ≤ (1 : Int) := (by omega); have q272 : 1 < (t268.length : Int) := of_decide_eq_true (by first | (with_reducible assumption) | assumption); obtain ⟨ad272, e272, hx272_0, hx272_1, hx272_2, hx272_3⟩ := at_T36 (Kd.R_reads' HO270.1).2.2 1 p272 q272; obtain rfl : ad271 = ad272 := (by injection e272); (try simp only [show (1 : Int).toNat = 1 from rfl, Nat.reduceMul, Nat.reduceEqDiff, Go.Addr.add, ↓reduceIte] at hx272_0); (try simp only [show (1 : Int).toNat = 1 from rfl, Nat.reduceMul, Nat.reduceEqDiff, Go.Addr.add, ↓reduceIte] at hx272_1); (try simp only [show (1 : Int).toNat = 1 from rfl, Nat.reduceMul, Nat.reduceEqDiff, Go.Addr.add, ↓reduceIte] at hx272_2); (try simp only [show (1 : Int).toNat = 1 from rfl, Nat.reduceMul, Nat.reduceEqDiff, Go.Addr.add, ↓reduceIte] at hx272_3); have qi272 : (1 < t268.length) = True := eq_true (by omega); (try rw [show ((1 : Int)).toNat = 1 from rfl] at hx272_0); (try rw [show 1 * 4 = 4 from rfl] at hx272_0); (try rw [show ((1 : Int)).toNat = 1 from rfl] at hx272_1); (try rw [show 1 * 4 = 4 from rfl] at hx272_1); (try rw [show ((1 : Int)).toNat = 1 from rfl] at hx272_2); (try rw [show 1 * 4 = 4 from rfl] at hx272_2); (try rw [show ((1 : Int)).toNat = 1 from rfl] at hx272_3); (try rw [show 1 * 4 = 4 from rfl] at hx272_3); replace p272 := eq_true p272; replace q272 := eq_true q272))
     go_ret
     exact ⟨rfl, by apply_rules (transparency := .reducible) [HB.1, bwA, bwN, bwD]⟩
    rw [if_neg c26] at H
    exact absurd H (by simp)
   rw [if_neg c25] at H
   have c25b0 : (eqb36 ((rd_T36 t268 0).f0) 1 ((rd_T36 t268 0).f1) 1 ((rd_T36 t268 0).f2) (⟨#[13]⟩ : ByteArray) ((rd_T36 t268 0).f3) 0) = false := by simpa using c25
   clear c25
   obtain rfl := Option.some.inj H
   go_wp2_with (first | ((with_reducible refine gate_callee (f := 14) rfl ?_); refine goesL_ (some 17) rfl rfl Try.func14 (by kernel_rfl) rfl #[.int .i32 81] rfl (by (try simp only [List.map_toArray, List.map_cons, List.map_nil]); first | done | rfl) ?_; (with_reducible refine (bodkinlaw19_ctrl.calls 81 t241 t242 t243 t244 t245 t246 _ A18.1).mono ?_); rintro e w36 ⟨rfl, hb⟩; refine ⟨_, rfl, ?_⟩; replace HB := aM (bwP (by apply_rules (transparency := .reducible) [HB.1, bwA, bwN, bwD]) hb); (try clear hb); (try clear hb2); (try clear hk); (try clear hi)) | ((with_reducible refine gate_callee (f := 14) rfl ?_); refine goesL_ (some 18) rfl rfl Try.func14 (by kernel_rfl) rfl #[.int .i32 77] rfl (by (try simp only [List.map_toArray, List.map_cons, List.map_nil]); first | done | rfl) ?_; (with_reducible refine (bodkinlaw19_ctrl.calls 77 t247 t248 t249 t250 t251 t252 _ A19.1).mono ?_); rintro e w37 ⟨rfl, hb⟩; refine ⟨_, rfl, ?_⟩; replace HB := aM (bwP (by apply_rules (transparency := .reducible) [HB.1, bwA, bwN, bwD]) hb); (try clear hb); (try clear hb2); (try clear hk); (try clear hi)) | ((with_reducible refine gate_callee (f := 15) rfl ?_); refine goesL_ (some 19) rfl rfl Try.func15 (by kernel_rfl) rfl #[.int .i32 109, .bool true] rfl (by (try simp only [List.map_toArray, List.map_cons, List.map_nil]); first | done | rfl) ?_; (with_reducible refine (bodkinlaw19_char.calls 109 true t253 t254 t255 t256 t257 t258 _ A20.1).mono ?_); rintro e w38 ⟨rfl, hb⟩; refine ⟨_, rfl, ?_⟩; replace HB := aM (bwP (by apply_rules (transparency := .reducible) [HB.1, bwA, bwN, bwD]) hb); (try clear hb); (try clear hb2); (try clear hk); (try clear hi)) | ((with_reducible refine gate_callee (f := 15) rfl ?_); refine goesL_ (some 20) rfl rfl Try.func15 (by kernel_rfl) rfl #[.int .i32 97, .bool false] rfl (by (try simp only [List.map_toArray, List.map_cons, List.map_nil]); first | done | rfl) ?_; (with_reducible refine (bodkinlaw19_char.calls 97 false t259 t260 t261 t262 t263 t264 _ A21.1).mono ?_); rintro e w39 ⟨rfl, hb⟩; refine ⟨_, rfl, ?_⟩; replace HB := aM (bwP (by apply_rules (transparency := .reducible) [HB.1, bwA, bwN, bwD]) hb); (try clear hb); (try clear hb2); (try clear hk); (try clear hi)) | ((with_reducible refine gate_dst (N := 21) rfl ?_); refine Kd.R_lit k25 _ 25 ?hg (N := 21) ?hd (xs := ([(⟨t241, t242, t243, t244, t245, t246⟩ : S25), (⟨t247, t248, t249, t250, t251, t252⟩ : S25), (⟨t253, t254, t255, t256, t257, t258⟩ : S25), (⟨t259, t260, t261, t262, t263, t264⟩ : S25)] : List (S25))) (inner := [.int .i64 t241, .int .i32 t242, .bool t243, .bool t244, .bool t245, .string t246, .int .i64 t247, .int .i32 t248, .bool t249, .bool t250, .bool t251, .string t252, .int .i64 t253, .int .i32 t254, .bool t255, .bool t256, .bool t257, .string t258, .int .i64 t259, .int .i32 t260, .bool t261, .bool t262, .bool t263, .string t264]) (ok := fun _ => True) (okp := fun _ => True) ?hr ?hp (fun _ hk => hk) trivial (Below.refl _ _) (Nat.le_refl _) (by simp) ?_; (case hd => rfl); (case hg => rfl); (case hr => first | (go_simp; done) | (go_simp; rfl)); (case hp => exact (Reps.c6 (show Kd.M k25 _ _ _ (⟨t241, t242, t243, t244, t245, t246⟩ : S25) [.int .i64 t241, .int .i32 t242, .bool t243, .bool t244, .bool t245, .string t246] from (k25_mkM _ _ _ (⟨t241, t242, t243, t244, t245, t246⟩ : S25) )) (Reps.c6 (show Kd.M k25 _ _ _ (⟨t247, t248, t249, t250, t251, t252⟩ : S25) [.int .i64 t247, .int .i32 t248, .bool t249, .bool t250, .bool t251, .string t252] from (k25_mkM _ _ _ (⟨t247, t248, t249, t250, t251, t252⟩ : S25) )) (Reps.c6 (show Kd.M k25 _ _ _ (⟨t253, t254, t255, t256, t257, t258⟩ : S25) [.int .i64 t253, .int .i32 t254, .bool t255, .bool t256, .bool t257, .string t258] from (k25_mkM _ _ _ (⟨t253, t254, t255, t256, t257, t258⟩ : S25) )) (Reps.c6 (show Kd.M k25 _ _ _ (⟨t259, t260, t261, t262, t263, t264⟩ : S25) [.int .i64 t259, .int .i32 t260, .bool t261, .bool t262, .bool t263, .string t264] from (k25_mkM _ _ _ (⟨t259, t260, t261, t262, t263, t264⟩ : S25) )) (Reps.none _ _)))))); intro v266 w40 ho41 hb hg_ hnew_; clear hg_ hnew_; (first | rw [← Ny265.1] at ho41 | (simp only [Int.reduceToNat] at ho41; rw [← Ny265.1] at ho41)); have HO267 := aM (Kd.R_lower ho41 (bwZ (by apply_rules (transparency := .reducible) [HB.1, bwA, bwN, bwD]))); replace HB := aM (bwP (by apply_rules (transparency := .reducible) [HB.1, bwA, bwN, bwD]) hb); clear hb ho41; obtain ⟨Ao42, co42, eo42⟩ := Kd.R_slice HO267.1; subst eo42) | ((with_reducible refine gate_callee (f := 17) rfl ?_); refine goesL_ (some 22) rfl rfl Try.func17 (by kernel_rfl) rfl #[.slice Ao42 y265.length co42] rfl (by (try simp only [List.map_toArray, List.map_cons, List.map_nil]); first | done | rfl) ?_; (with_reducible refine (bind_Commands.calls kj4 _ _ y265 t268 _ ?side1 ?side2 A22.1).mono ?_); (case side1 => repeat (first | exact (Kd.R_reads' HO267.1).2.2 | (with_reducible refine Kd.C_alloc ?_ _) | (with_reducible refine Kd.C_drewN ?_ _) | (with_reducible refine Kd.C_drew ?_))); (case side2 => exact (Kd.R_reads' HO267.1).2.1); rintro e w43 ⟨v269, rfl, ho0, hb⟩; refine ⟨_, rfl, ?_⟩; replace HO267 := aM (Kd.R_below (by (with_reducible repeat first | apply Kd.R_alloc | apply Kd.R_drewN | apply Kd.R_drew); exact HO267.1) hb); have HO270 := aM (Kd.R_lower ho0 (bwZ (by apply_rules (transparency := .reducible) [HB.1, bwA, bwN, bwD]))); replace HB := aM (bwP (by apply_rules (transparency := .reducible) [HB.1, bwA, bwN, bwD]) hb); (try clear hb); (try clear hb2); (try clear hk); (try clear hi); (try clear ho0); obtain ⟨Ao44, co44, eo44⟩ := Kd.R_slice HO270.1; subst eo44; have p271 : 0 ≤ (0 : Int) := (by omega); have q271 : 0 < (t268.length : Int) := of_decide_eq_true (by first | (with_reducible assumption) | assumption); obtain ⟨ad271, e271, hx271_0, hx271_1, hx271_2, hx271_3⟩ := at_T36 (Kd.R_reads' HO270.1).2.2 0 p271 q271; cases e271; have qi271 : (0 < t268.length) = True := eq_true (by omega); (try rw [show ((0 : Int)).toNat = 0 from rfl] at hx271_0); (try rw [show 0 * 4 = 0 from rfl] at hx271_0); (try rw [Addr.add_zero'] at hx271_0); (try rw [show ((0 : Int)).toNat = 0 from rfl] at hx271_1); (try rw [show 0 * 4 = 0 from rfl] at hx271_1); (try rw [Addr.add_zero'] at hx271_1); (try rw [show ((0 : Int)).toNat = 0 from rfl] at hx271_2); (try rw [show 0 * 4 = 0 from rfl] at hx271_2); (try rw [Addr.add_zero'] at hx271_2); (try rw [show ((0 : Int)).toNat = 0 from rfl] at hx271_3); (try rw [show 0 * 4 = 0 from rfl] at hx271_3); (try rw [Addr.add_zero'] at hx271_3); replace p271 := eq_true p271; replace q271 := eq_true q271))
   go_ret
   exact ⟨rfl, by apply_rules (transparency := .reducible) [HB.1, bwA, bwN, bwD]⟩
  rw [if_neg c24] at H
  exact absurd H (by simp)
 rw [if_neg c23] at H
 have c23b0 : ((t268.length : Int) == 2) = false := beq_eq_false_iff_ne.mpr c23
 have c23b1 : ((t268.length : Int) != 2) = true := bne_iff_ne.mpr c23
 obtain rfl := Option.some.inj H
 go_wp2_with (first | ((with_reducible refine gate_callee (f := 14) rfl ?_); refine goesL_ (some 17) rfl rfl Try.func14 (by kernel_rfl) rfl #[.int .i32 81] rfl (by (try simp only [List.map_toArray, List.map_cons, List.map_nil]); first | done | rfl) ?_; (with_reducible refine (bodkinlaw19_ctrl.calls 81 t241 t242 t243 t244 t245 t246 _ A18.1).mono ?_); rintro e w45 ⟨rfl, hb⟩; refine ⟨_, rfl, ?_⟩; replace HB := aM (bwP (by apply_rules (transparency := .reducible) [HB.1, bwA, bwN, bwD]) hb); (try clear hb); (try clear hb2); (try clear hk); (try clear hi)) | ((with_reducible refine gate_callee (f := 14) rfl ?_); refine goesL_ (some 18) rfl rfl Try.func14 (by kernel_rfl) rfl #[.int .i32 77] rfl (by (try simp only [List.map_toArray, List.map_cons, List.map_nil]); first | done | rfl) ?_; (with_reducible refine (bodkinlaw19_ctrl.calls 77 t247 t248 t249 t250 t251 t252 _ A19.1).mono ?_); rintro e w46 ⟨rfl, hb⟩; refine ⟨_, rfl, ?_⟩; replace HB := aM (bwP (by apply_rules (transparency := .reducible) [HB.1, bwA, bwN, bwD]) hb); (try clear hb); (try clear hb2); (try clear hk); (try clear hi)) | ((with_reducible refine gate_callee (f := 15) rfl ?_); refine goesL_ (some 19) rfl rfl Try.func15 (by kernel_rfl) rfl #[.int .i32 109, .bool true] rfl (by (try simp only [List.map_toArray, List.map_cons, List.map_nil]); first | done | rfl) ?_; (with_reducible refine (bodkinlaw19_char.calls 109 true t253 t254 t255 t256 t257 t258 _ A20.1).mono ?_); rintro e w47 ⟨rfl, hb⟩; refine ⟨_, rfl, ?_⟩; replace HB := aM (bwP (by apply_rules (transparency := .reducible) [HB.1, bwA, bwN, bwD]) hb); (try clear hb); (try clear hb2); (try clear hk); (try clear hi)) | ((with_reducible refine gate_callee (f := 15) rfl ?_); refine goesL_ (some 20) rfl rfl Try.func15 (by kernel_rfl) rfl #[.int .i32 97, .bool false] rfl (by (try simp only [List.map_toArray, List.map_cons, List.map_nil]); first | done | rfl) ?_; (with_reducible refine (bodkinlaw19_char.calls 97 false t259 t260 t261 t262 t263 t264 _ A21.1).mono ?_); rintro e w48 ⟨rfl, hb⟩; refine ⟨_, rfl, ?_⟩; replace HB := aM (bwP (by apply_rules (transparency := .reducible) [HB.1, bwA, bwN, bwD]) hb); (try clear hb); (try clear hb2); (try clear hk); (try clear hi)) | ((with_reducible refine gate_dst (N := 21) rfl ?_); refine Kd.R_lit k25 _ 25 ?hg (N := 21) ?hd (xs := ([(⟨t241, t242, t243, t244, t245, t246⟩ : S25), (⟨t247, t248, t249, t250, t251, t252⟩ : S25), (⟨t253, t254, t255, t256, t257, t258⟩ : S25), (⟨t259, t260, t261, t262, t263, t264⟩ : S25)] : List (S25))) (inner := [.int .i64 t241, .int .i32 t242, .bool t243, .bool t244, .bool t245, .string t246, .int .i64 t247, .int .i32 t248, .bool t249, .bool t250, .bool t251, .string t252, .int .i64 t253, .int .i32 t254, .bool t255, .bool t256, .bool t257, .string t258, .int .i64 t259, .int .i32 t260, .bool t261, .bool t262, .bool t263, .string t264]) (ok := fun _ => True) (okp := fun _ => True) ?hr ?hp (fun _ hk => hk) trivial (Below.refl _ _) (Nat.le_refl _) (by simp) ?_; (case hd => rfl); (case hg => rfl); (case hr => first | (go_simp; done) | (go_simp; rfl)); (case hp => exact (Reps.c6 (show Kd.M k25 _ _ _ (⟨t241, t242, t243, t244, t245, t246⟩ : S25) [.int .i64 t241, .int .i32 t242, .bool t243, .bool t244, .bool t245, .string t246] from (k25_mkM _ _ _ (⟨t241, t242, t243, t244, t245, t246⟩ : S25) )) (Reps.c6 (show Kd.M k25 _ _ _ (⟨t247, t248, t249, t250, t251, t252⟩ : S25) [.int .i64 t247, .int .i32 t248, .bool t249, .bool t250, .bool t251, .string t252] from (k25_mkM _ _ _ (⟨t247, t248, t249, t250, t251, t252⟩ : S25) )) (Reps.c6 (show Kd.M k25 _ _ _ (⟨t253, t254, t255, t256, t257, t258⟩ : S25) [.int .i64 t253, .int .i32 t254, .bool t255, .bool t256, .bool t257, .string t258] from (k25_mkM _ _ _ (⟨t253, t254, t255, t256, t257, t258⟩ : S25) )) (Reps.c6 (show Kd.M k25 _ _ _ (⟨t259, t260, t261, t262, t263, t264⟩ : S25) [.int .i64 t259, .int .i32 t260, .bool t261, .bool t262, .bool t263, .string t264] from (k25_mkM _ _ _ (⟨t259, t260, t261, t262, t263, t264⟩ : S25) )) (Reps.none _ _)))))); intro v266 w49 ho50 hb hg_ hnew_; clear hg_ hnew_; (first | rw [← Ny265.1] at ho50 | (simp only [Int.reduceToNat] at ho50; rw [← Ny265.1] at ho50)); have HO267 := aM (Kd.R_lower ho50 (bwZ (by apply_rules (transparency := .reducible) [HB.1, bwA, bwN, bwD]))); replace HB := aM (bwP (by apply_rules (transparency := .reducible) [HB.1, bwA, bwN, bwD]) hb); clear hb ho50; obtain ⟨Ao51, co51, eo51⟩ := Kd.R_slice HO267.1; subst eo51) | ((with_reducible refine gate_callee (f := 17) rfl ?_); refine goesL_ (some 22) rfl rfl Try.func17 (by kernel_rfl) rfl #[.slice Ao51 y265.length co51] rfl (by (try simp only [List.map_toArray, List.map_cons, List.map_nil]); first | done | rfl) ?_; (with_reducible refine (bind_Commands.calls kj4 _ _ y265 t268 _ ?side1 ?side2 A22.1).mono ?_); (case side1 => repeat (first | exact (Kd.R_reads' HO267.1).2.2 | (with_reducible refine Kd.C_alloc ?_ _) | (with_reducible refine Kd.C_drewN ?_ _) | (with_reducible refine Kd.C_drew ?_))); (case side2 => exact (Kd.R_reads' HO267.1).2.1); rintro e w52 ⟨v269, rfl, ho0, hb⟩; refine ⟨_, rfl, ?_⟩; replace HO267 := aM (Kd.R_below (by (with_reducible repeat first | apply Kd.R_alloc | apply Kd.R_drewN | apply Kd.R_drew); exact HO267.1) hb); have HO270 := aM (Kd.R_lower ho0 (bwZ (by apply_rules (transparency := .reducible) [HB.1, bwA, bwN, bwD]))); replace HB := aM (bwP (by apply_rules (transparency := .reducible) [HB.1, bwA, bwN, bwD]) hb); (try clear hb); (try clear hb2); (try clear hk); (try clear hi); (try clear ho0); obtain ⟨Ao53, co53, eo53⟩ := Kd.R_slice HO270.1; subst eo53))
 go_ret
 exact ⟨rfl, by apply_rules (transparency := .reducible) [HB.1, bwA, bwN, bwD]⟩

end Go.Proofs.Ytgkaiagoogjibaa.PBind
