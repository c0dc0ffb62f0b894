/- Clone of both binders, and 'agree' of a binder and the reference's: walked. Where the same waits for both, 'agree' says yes. -/
import Derived.Test.YtgkaiagoogjibaaBkD
import Derived.Test.YtgkaiagoogjibaaPBindx18
import Derived.Test.YtgkaiagoogjibaaPBindx21
import Derived.Test.YtgkaiagoogjibaaPBindx1
namespace Go.Proofs.Ytgkaiagoogjibaa.Bk
open Go Go.RowKit Go.Proofs.Ytgkaiagoogjibaa.PBind Go.Proofs.YtgkaiagoogjibaaW.PrintWords Go.Proofs.YtgkaiagoogjibaaW.PrintLast Go.Proofs.YtgkaiagoogjibaaW.PrintMore
open Go.Proofs.YtgkaiagoogjibaaW.PrintWords renaming blk_drewN → bkN, blk_drew → bkD, blk_alloc → bkA, below_alloc → bwA, pw_below_drewN → bwN, below_drew1 → bwD, below_size → bwZ, below_step → bwP, blk_far → bkR, blk_put → bkU
open Go.Proofs.YtgkaiagoogjibaaW.PrintWords.Aside0 renaming mk → aM
attribute [local go_sem] max2_int min2_int max_two min_two max_three min_three max_four min_four
attribute [local go_sem high] eqA36
set_option linter.unusedVariables false
set_option linter.unusedSimpArgs false

theorem cells_ne {w : World} {g g' : Nat} {t t' : TypeId} {cs cs' : Array Value} (h : w.heap[g]? = some (.cells cs t (0, 0))) (h' : w.heap[g']? = some (.cells cs' t' (0, 0))) (hne : t ≠ t') : g ≠ g' := by
  rintro rfl
  rw [h] at h'
  injection h' with h'
  injection h' with _ h2
  exact hne h2
theorem put3 {w : World} {g : Nat} {t : TypeId} {a b c : Value} {cs cs' : Array Value} (h : w.heap[g]? = some (.cells cs t (0, 0))) (e : ((cs.setIfInBounds 0 a).setIfInBounds 1 b).setIfInBounds 2 c = cs') :
    (((w.setCell ⟨g, 0, none⟩ a).setCell ⟨g, 1, none⟩ b).setCell ⟨g, 2, none⟩ c).heap[g]? = some (.cells cs' t (0, 0)) := e ▸ blk_set (blk_set (blk_set h 0 a) 1 b) 2 c
theorem s53_keep {w0 W W1 : World} {g g' : Nat} {a : Int} {b : Bool} {c : Int} (h : IsS53 w0 W g a b c) (hk : KeepBut W W1 g' none) (hne : g ≠ g') : IsS53 w0 W1 g a b c := ⟨hk.blk h.1 hne (by simp), h.2⟩
theorem s59_keep {w0 W W1 : World} {g g' : Nat} {a : ByteArray} {b : Int} {c : Bool} (h : IsS59 w0 W g a b c) (hk : KeepBut W W1 g' none) (hne : g ≠ g') : IsS59 w0 W1 g a b c := ⟨hk.blk h.1 hne (by simp), h.2⟩
theorem s53_s59 {w0 W : World} {g g' : Nat} {a : Int} {b : Bool} {c : Int} {d : ByteArray} {e : Int} {f : Bool} (h : IsS53 w0 W g a b c) (h' : IsS59 w0 W g' d e f) : g ≠ g' := cells_ne h.1 h'.1 (by decide)

theorem box_keep {W W1 : World} {g gb : Nat} {o : Obj} (h : W.heap[g]? = some o) (hb : Below W.heap.size W W1) (hg : gb = W.heap.size) : W1.heap[g]? = some o ∧ g ≠ gb ∧ gb ≠ g := by
  have := blk_lt h
  exact ⟨blk_below h hb, by omega, by omega⟩
theorem below_of_keep {w0 w w1 : World} {n g : Nat} (h : Below n w0 w) (h1 : Below n w0 w1) (hk : KeepBut w w1 g none) (he : w1.heap[g]? = w.heap[g]?) : Below w.heap.size w w1 := by
  refine ⟨h1.os.trans h.os.symm, h1.tape.trans h.tape.symm, h1.output.trans h.output.symm, hk.1, fun i hi => ?_⟩
  by_cases e : i = g
  · rw [e]; exact he
  · exact hk.2 i hi e (by simp)
theorem count_quiet (g : Nat) (p : Int) (cs : Bool) (cn : Int) (w0 w : World) (hI : IsS53 w0 w g p cs cn) (hB : Below w0.heap.size w0 w) :
    Calls Try.prog 24 #[.pointer (some ⟨g, 0, none⟩)] w fun e w' => e = .returned (.tuple #[.int .i64 (cnt cs cn), .bool cs]) ∧ Below w.heap.size w w' :=
  (bind_Binder_Count.calls g p cs cn _ _ _ _ _ w0 w hI hB (count_of p cs cn)).mono (by rintro e w' ⟨rfl, hi, hb, hk⟩; exact ⟨rfl, below_of_keep hB hb hk (hi.1.trans hI.1.symm)⟩)
theorem refcount_quiet (g : Nat) (s : ByteArray) (cn : Int) (cs : Bool) (w0 w : World) (hI : IsS59 w0 w g s cn cs) (hB : Below w0.heap.size w0 w) :
    Calls Try.prog 35 #[.pointer (some ⟨g, 0, none⟩)] w fun e w' => e = .returned (.tuple #[.int .i64 (cnt cs cn), .bool cs]) ∧ Below w.heap.size w w' :=
  (bodkinref19_Binder_Count.calls g s cn cs _ _ _ _ _ w0 w hI hB (ref_count s cn cs)).mono (by rintro e w' ⟨rfl, hi, hb, hk⟩; exact ⟨rfl, below_of_keep hB hb hk (hi.1.trans hI.1.symm)⟩)
theorem prefix_pstr (p : Int) (cs : Bool) (cn : Int) (h : isP p) : bind_Binder_Prefix.f p cs cn = some (pstr p, p, cs, cn) := by
  rcases h with rfl | rfl | rfl | rfl | rfl <;> kernel_rfl
theorem prefix_quiet (g : Nat) (p : Int) (cs : Bool) (cn : Int) (w0 w : World) (hI : IsS53 w0 w g p cs cn) (hB : Below w0.heap.size w0 w) (h : isP p) :
    Calls Try.prog 22 #[.pointer (some ⟨g, 0, none⟩)] w fun e w' => e = .returned (.string (pstr p)) ∧ Below w.heap.size w w' :=
  (bind_Binder_Prefix.calls g p cs cn _ _ _ _ w0 w hI hB (prefix_pstr p cs cn h)).mono (by rintro e w' ⟨rfl, hi, hb, hk⟩; exact ⟨rfl, below_of_keep hB hb hk (hi.1.trans hI.1.symm)⟩)
theorem refprefix_quiet (g : Nat) (s : ByteArray) (cn : Int) (cs : Bool) (w0 w : World) (hI : IsS59 w0 w g s cn cs) (hB : Below w0.heap.size w0 w) :
    Calls Try.prog 36 #[.pointer (some ⟨g, 0, none⟩)] w fun e w' => e = .returned (.string s) ∧ Below w.heap.size w w' :=
  (bodkinref19_Binder_Prefix.calls g s cn cs _ _ _ _ w0 w hI hB rfl).mono (by rintro e w' ⟨rfl, hi, hb, hk⟩; exact ⟨rfl, below_of_keep hB hb hk (hi.1.trans hI.1.symm)⟩)

set_option maxHeartbeats 8000000 in
set_option maxRecDepth 100000 in
theorem clone_calls (g : Nat) (p : Int) (cs : Bool) (cn : Int) (w0 w : World) (hI : IsS53 w0 w g p cs cn) (hB : Below w0.heap.size w0 w) :
    Calls Try.prog 26 #[.pointer (some ⟨g, 0, none⟩)] w fun e w' => ∃ g_ : Nat, e = .returned (.pointer (some ⟨g_, 0, none⟩)) ∧ w.heap.size ≤ g_ ∧ IsS53 w0 w' g_ p cs cn ∧ Below w0.heap.size w0 w' ∧ Below w.heap.size w w' := by
  have hu53 := Try.underlying53
  have HBW := aM (Below.refl w.heap.size w)
  have HW0 := aM hB.size
  have HB := aM hB
  obtain ⟨HGz, hgz⟩ := hI
  have hlt := blk_lt HGz
  have hcz_0 := cellS53_0 HGz
  have hcz_1 := cellS53_1 HGz
  have hcz_2 := cellS53_2 HGz
  have hfz_0 := blk_frozen HGz 0
  have hfz_1 := blk_frozen HGz 1
  have hfz_2 := blk_frozen HGz 2
  clear hB
  go_enter Try.func26, Try.ntmps26
  go_wp2_with (first | ((with_reducible refine gate_dst (N := 3) rfl ?_); refine box_event ?hg (N := 3) ?hd (cs := #[.int .u8 0, .bool false, .int .i64 0]) (t := 53) ?hr ?_; (case hd => rfl); (case hg => rfl); (case hr => first | (go_simp; done) | (go_simp; rfl)); intro gb hg w1 hbox hb; replace HB := aM (bwP (by apply_rules (transparency := .reducible) [HB.1, bwA, bwN, bwD]) hb); have BK := aM (hbox); have GW := aM ((by rw [hg]; exact (bwZ (by apply_rules (transparency := .reducible) [HBW.1, bwA, bwN, bwD])) : w.heap.size ≤ gb)); have GE := aM ((Nat.le_trans HW0.1 GW.1 : w0.heap.size ≤ gb)); replace HBW := aM (bwP (by apply_rules (transparency := .reducible) [HBW.1, bwA, bwN, bwD]) hb); clear hb hbox hg; have hz_0 := (blk_cell BK.1 0).trans rfl; have hz_1 := (blk_cell BK.1 1).trans rfl; have hz_2 := (blk_cell BK.1 2).trans rfl; have hf_0 := blk_frozen BK.1 0; have hf_1 := blk_frozen BK.1 1; have hf_2 := blk_frozen BK.1 2))
  go_ret
  exact ⟨gb, rfl, GW.1, ⟨by (with_reducible repeat first | apply bkN | apply bkD | apply bkA); exact put3 BK.1 rfl, GE.1⟩, by apply_rules (transparency := .reducible) [HB.1, bwA, bwN, bwD, bwS, GE.1], by apply_rules (transparency := .reducible) [HBW.1, bwA, bwN, bwD, bwS, GW.1]⟩
set_option maxHeartbeats 8000000 in
set_option maxRecDepth 100000 in
theorem agree_calls (gb gw : Nat) (p : Int) (cs : Bool) (cn : Int) (hp : isP p) (w0 w : World) (hI : IsS53 w0 w gb p cs cn) (hJ : IsS59 w0 w gw (pstr p) cn cs) (hB : Below w0.heap.size w0 w) :
    Calls Try.prog 28 #[.pointer (some ⟨gb, 0, none⟩), .pointer (some ⟨gw, 0, none⟩)] w fun e w' => e = .returned (.bool true) ∧ Below w.heap.size w w' := by
  have HBW := aM (Below.refl w.heap.size w)
  have HB := aM hB
  have NBb_w := aM (s53_s59 hI hJ)
  have NBw_b := aM (Ne.symm NBb_w.1)
  have GEb := aM hI.2
  have GEw := aM hJ.2
  have Fb := aM hI.1
  have Fw := aM hJ.1
  clear hI hJ hB
  go_enter Try.func28, Try.ntmps28
  go_wp2_with (first | ((with_reducible refine gate_callee (f := 24) rfl ?_); refine goesL_ (some 11) rfl rfl Try.func24 (by kernel_rfl) rfl #[.pointer (some ⟨gb, 0, none⟩)] rfl (by (try simp only [List.map_toArray, List.map_cons, List.map_nil]); first | done | rfl | (simp only [List.length_drop, List.length_take]; rfl)) ?_; (with_reducible refine (count_quiet gb p cs cn w0 _ ?side1 ?side2).mono ?_); (case side1 => exact ⟨by apply_rules (transparency := .reducible) [Fb.1, bkN, bkD, bkA], GEb.1⟩); (case side2 => apply_rules (transparency := .reducible) [HB.1, bwA, bwN, bwD]); rintro e w1 ⟨rfl, hb⟩; refine ⟨_, rfl, ?_⟩; replace Fb := aM (blk_below (g := gb) (o := (.cells #[.int .u8 p, .bool cs, .int .i64 cn] 53 (0, 0))) (by apply_rules (transparency := .reducible) [Fb.1, bkN, bkD, bkA]) hb); replace Fw := aM (blk_below (g := gw) (o := (.cells #[.string (pstr p), .int .i64 cn, .bool cs] 59 (0, 0))) (by apply_rules (transparency := .reducible) [Fw.1, bkN, bkD, bkA]) hb); replace HB := aM (bwP (by apply_rules (transparency := .reducible) [HB.1, bwA, bwN, bwD]) hb); replace HBW := aM (bwP (by apply_rules (transparency := .reducible) [HBW.1, bwA, bwN, bwD]) hb); clear hb; obtain ⟨y1_b_0, y1_b_1, y1_b_2, y1_b_3, y1_b_4, y1_b_5⟩ := bx3 Fb.1; obtain ⟨y1_w_0, y1_w_1, y1_w_2, y1_w_3, y1_w_4, y1_w_5⟩ := bx3 Fw.1; have m1_b_w := NBb_w.1; have m1_w_b := NBw_b.1) | ((with_reducible refine gate_callee (f := 35) rfl ?_); refine goesL_ (some 16) rfl rfl Try.func35 (by kernel_rfl) rfl #[.pointer (some ⟨gw, 0, none⟩)] rfl (by (try simp only [List.map_toArray, List.map_cons, List.map_nil]); first | done | rfl | (simp only [List.length_drop, List.length_take]; rfl)) ?_; (with_reducible refine (refcount_quiet gw (pstr p) cn cs w0 _ ?side1 ?side2).mono ?_); (case side1 => exact ⟨by apply_rules (transparency := .reducible) [Fw.1, bkN, bkD, bkA], GEw.1⟩); (case side2 => apply_rules (transparency := .reducible) [HB.1, bwA, bwN, bwD]); rintro e w2 ⟨rfl, hb⟩; refine ⟨_, rfl, ?_⟩; replace Fb := aM (blk_below (g := gb) (o := (.cells #[.int .u8 p, .bool cs, .int .i64 cn] 53 (0, 0))) (by apply_rules (transparency := .reducible) [Fb.1, bkN, bkD, bkA]) hb); replace Fw := aM (blk_below (g := gw) (o := (.cells #[.string (pstr p), .int .i64 cn, .bool cs] 59 (0, 0))) (by apply_rules (transparency := .reducible) [Fw.1, bkN, bkD, bkA]) hb); replace HB := aM (bwP (by apply_rules (transparency := .reducible) [HB.1, bwA, bwN, bwD]) hb); replace HBW := aM (bwP (by apply_rules (transparency := .reducible) [HBW.1, bwA, bwN, bwD]) hb); clear hb; obtain ⟨y2_b_0, y2_b_1, y2_b_2, y2_b_3, y2_b_4, y2_b_5⟩ := bx3 Fb.1; obtain ⟨y2_w_0, y2_w_1, y2_w_2, y2_w_3, y2_w_4, y2_w_5⟩ := bx3 Fw.1; have m2_b_w := NBb_w.1; have m2_w_b := NBw_b.1) | ((with_reducible refine gate_callee (f := 22) rfl ?_); refine goesL_ (some 20) rfl rfl Try.func22 (by kernel_rfl) rfl #[.pointer (some ⟨gb, 0, none⟩)] rfl (by (try simp only [List.map_toArray, List.map_cons, List.map_nil]); first | done | rfl | (simp only [List.length_drop, List.length_take]; rfl)) ?_; (with_reducible refine (prefix_quiet gb p cs cn w0 _ ?side1 ?side2 hp).mono ?_); (case side1 => exact ⟨by apply_rules (transparency := .reducible) [Fb.1, bkN, bkD, bkA], GEb.1⟩); (case side2 => apply_rules (transparency := .reducible) [HB.1, bwA, bwN, bwD]); rintro e w3 ⟨rfl, hb⟩; refine ⟨_, rfl, ?_⟩; replace Fb := aM (blk_below (g := gb) (o := (.cells #[.int .u8 p, .bool cs, .int .i64 cn] 53 (0, 0))) (by apply_rules (transparency := .reducible) [Fb.1, bkN, bkD, bkA]) hb); replace Fw := aM (blk_below (g := gw) (o := (.cells #[.string (pstr p), .int .i64 cn, .bool cs] 59 (0, 0))) (by apply_rules (transparency := .reducible) [Fw.1, bkN, bkD, bkA]) hb); replace HB := aM (bwP (by apply_rules (transparency := .reducible) [HB.1, bwA, bwN, bwD]) hb); replace HBW := aM (bwP (by apply_rules (transparency := .reducible) [HBW.1, bwA, bwN, bwD]) hb); clear hb; obtain ⟨y3_b_0, y3_b_1, y3_b_2, y3_b_3, y3_b_4, y3_b_5⟩ := bx3 Fb.1; obtain ⟨y3_w_0, y3_w_1, y3_w_2, y3_w_3, y3_w_4, y3_w_5⟩ := bx3 Fw.1; have m3_b_w := NBb_w.1; have m3_w_b := NBw_b.1) | ((with_reducible refine gate_callee (f := 36) rfl ?_); refine goesL_ (some 22) rfl rfl Try.func36 (by kernel_rfl) rfl #[.pointer (some ⟨gw, 0, none⟩)] rfl (by (try simp only [List.map_toArray, List.map_cons, List.map_nil]); first | done | rfl | (simp only [List.length_drop, List.length_take]; rfl)) ?_; (with_reducible refine (refprefix_quiet gw (pstr p) cn cs w0 _ ?side1 ?side2).mono ?_); (case side1 => exact ⟨by apply_rules (transparency := .reducible) [Fw.1, bkN, bkD, bkA], GEw.1⟩); (case side2 => apply_rules (transparency := .reducible) [HB.1, bwA, bwN, bwD]); rintro e w4 ⟨rfl, hb⟩; refine ⟨_, rfl, ?_⟩; replace Fb := aM (blk_below (g := gb) (o := (.cells #[.int .u8 p, .bool cs, .int .i64 cn] 53 (0, 0))) (by apply_rules (transparency := .reducible) [Fb.1, bkN, bkD, bkA]) hb); replace Fw := aM (blk_below (g := gw) (o := (.cells #[.string (pstr p), .int .i64 cn, .bool cs] 59 (0, 0))) (by apply_rules (transparency := .reducible) [Fw.1, bkN, bkD, bkA]) hb); replace HB := aM (bwP (by apply_rules (transparency := .reducible) [HB.1, bwA, bwN, bwD]) hb); replace HBW := aM (bwP (by apply_rules (transparency := .reducible) [HBW.1, bwA, bwN, bwD]) hb); clear hb; obtain ⟨y4_b_0, y4_b_1, y4_b_2, y4_b_3, y4_b_4, y4_b_5⟩ := bx3 Fb.1; obtain ⟨y4_w_0, y4_w_1, y4_w_2, y4_w_3, y4_w_4, y4_w_5⟩ := bx3 Fw.1; have m4_b_w := NBb_w.1; have m4_w_b := NBw_b.1))
  go_ret
  exact ⟨by simp, by apply_rules (transparency := .reducible) [HBW.1, bwA, bwN, bwD]⟩

set_option maxHeartbeats 8000000 in
set_option maxRecDepth 100000 in
theorem refclone_calls (g : Nat) (p : Int) (cs : Bool) (cn : Int) (w0 w : World) (hI : IsS59 w0 w g (pstr p) cn cs) (hB : Below w0.heap.size w0 w) :
    Calls Try.prog 27 #[.pointer (some ⟨g, 0, none⟩)] w fun e w' => ∃ g_ : Nat, e = .returned (.pointer (some ⟨g_, 0, none⟩)) ∧ w.heap.size ≤ g_ ∧ IsS59 w0 w' g_ (pstr p) cn cs ∧ Below w0.heap.size w0 w' ∧ Below w.heap.size w w' := by
  have hu59 := Try.underlying59
  have HBW := aM (Below.refl w.heap.size w)
  have HW0 := aM hB.size
  have HB := aM hB
  obtain ⟨HGz, hgz⟩ := hI
  have hlt := blk_lt HGz
  obtain ⟨c0, c1, c2, f0, f1, f2⟩ := bx3 HGz
  clear hB
  go_enter Try.func27, Try.ntmps27
  go_wp2
  go_region
  go_wp2
  go_ret
  exact ⟨w.heap.size, rfl, Nat.le_refl _, ⟨heap_alloc_new w _, HW0.1⟩, below_drew1 (below_alloc HB.1 _), below_drew1 (below_alloc HBW.1 _)⟩
end Go.Proofs.Ytgkaiagoogjibaa.Bk
