-- written by pp.py of this session's wip: the kit's print, turned in a few places, over this claim's program
import Derived.Test.YtgkaiagoogjibaaPBindx0
import Derived.Test.YtgkaiagoogjibaaPBindx10
namespace Go.Proofs.Ytgkaiagoogjibaa.PBind
open Go.RowKit Go.Proofs.YtgkaiagoogjibaaW.PrintWords Go.Proofs.YtgkaiagoogjibaaW.PrintLast Go.Proofs.YtgkaiagoogjibaaW.PrintMore
open Go.Proofs.YtgkaiagoogjibaaW.PrintWords renaming blk_frozen → bkF
attribute [local go_sem] max2_int min2_int max_two min_two max_three min_three max_four min_four   -- for this text's walks alone
set_option linter.unusedVariables false
set_option linter.unusedSimpArgs false

-- NOT PRINTED: function 26 (bind_Binder_Clone)

-- NOT PRINTED: function 27 (bodkinref19_Binder_Clone)

/-! ### bodkinref19_Binder_Prefix: function 36 -/
def bodkinref19_Binder_Prefix.f (s0_0 : ByteArray) (s0_1 : Int) (s0_2 : Bool) : Option (ByteArray × ByteArray × Int × Bool) := some (s0_0, s0_0, s0_1, s0_2)
set_option maxHeartbeats 8000000 in
set_option maxRecDepth 100000 in
theorem bodkinref19_Binder_Prefix.calls (g : Nat) (s0_0 : ByteArray) (s0_1 : Int) (s0_2 : Bool) (r1 : ByteArray) (r2 : ByteArray) (r3 : Int) (r4 : Bool) (w0 w : World) (hI : IsS59 w0 w g s0_0 s0_1 s0_2) (hB : Below w0.heap.size w0 w) (h : bodkinref19_Binder_Prefix.f s0_0 s0_1 s0_2 = some (r1, r2, r3, r4)) :
    Calls Try.prog 36 #[.pointer (some ⟨g, 0, none⟩)] w fun e w' => e = .returned (.string r1) ∧ IsS59 w0 w' g r2 r3 r4 ∧ Below w0.heap.size w0 w' ∧ KeepBut w w' g none := by
 have HI0 := Aside0.mk hI
 have HK := Aside0.mk (KeepBut.refl w g none)
 have HL := Aside0.mk hB.size
 clear hI
 have HW0 := Aside0.mk hB.size
 have HB := Aside0.mk hB
 clear hB
 have H : (some (s0_0, s0_0, s0_1, s0_2)) = some (r1, r2, r3, r4) := h
 clear h
 simp only [Option.some.injEq, Prod.mk.injEq] at H
 obtain ⟨rfl, rfl, rfl, rfl⟩ := H
 obtain ⟨HGz2, hgz2⟩ := HI0.1
 have hcz2_0 := cellS59_0 HGz2
 have hcz2_1 := cellS59_1 HGz2
 have hcz2_2 := cellS59_2 HGz2
 have hfz2_0 := bkF HGz2 0
 have hfz2_1 := bkF HGz2 1
 have hfz2_2 := bkF HGz2 2
 clear HGz2 hgz2
 go_enter Try.func36, Try.ntmps36
 go_wp2
 go_ret
 exact ⟨rfl, by apply_rules (transparency := .reducible) [HI0.1, IsS59.alloc, IsS59.drewN, IsS59.drew, IsS59.set_0, IsS59.set_1, IsS59.set_2], by apply_rules (transparency := .reducible) [HB.1, below_alloc, pw_below_drewN, below_drew1, bwS, (IsS59.ge HI0.1)], by apply_rules (transparency := .reducible) [HK.1, KeepBut.set_, keep_drewN, keep_drew, keep_alloc]⟩

-- NOT PRINTED: function 28 (bodkinlaw19_agree)

-- NOT PRINTED: function 11 (bodkinlaw19_BindKeys)

-- NOT PRINTED: function 12 (bodkinlaw19_BindNone)

end Go.Proofs.Ytgkaiagoogjibaa.PBind
