-- written by pp.py of this session's wip: the kit's print, turned in a few places, over this claim's program
import Derived.Test.YtgkaiagoogjibaaPBindx0
namespace Go.Proofs.Ytgkaiagoogjibaa.PBind
open Go.RowKit Go.Proofs.YtgkaiagoogjibaaW.PrintWords Go.Proofs.YtgkaiagoogjibaaW.PrintLast Go.Proofs.YtgkaiagoogjibaaW.PrintMore
open Go.Proofs.YtgkaiagoogjibaaW.PrintWords renaming blk_drewN → bkN, blk_drew → bkD, blk_alloc → bkA, below_alloc → bwA, pw_below_drewN → bwN, below_drew1 → bwD, below_size → bwZ, below_step → bwP, blk_frozen → bkF, blk_put → bkU, keep_drewN → kpN, keep_drew → kpD, keep_alloc → kpA
open Go.Proofs.YtgkaiagoogjibaaW.PrintWords.Aside0 renaming mk → aM
attribute [local go_sem] max2_int min2_int max_two min_two max_three min_three max_four min_four   -- for this text's walks alone
set_option linter.unusedVariables false
set_option linter.unusedSimpArgs false

/-! ### bodkinlaw19_ctrl: function 14 -/
def bodkinlaw19_ctrl.f (a0 : Int) : Option (Int × Int × Bool × Bool × Bool × ByteArray) := some (2, a0, true, false, false, (⟨#[]⟩ : ByteArray))
set_option maxHeartbeats 8000000 in
set_option maxRecDepth 100000 in
theorem bodkinlaw19_ctrl.calls (a0 : Int) (r1 : Int) (r2 : Int) (r3 : Bool) (r4 : Bool) (r5 : Bool) (r6 : ByteArray) (w : World) (h : bodkinlaw19_ctrl.f a0 = some (r1, r2, r3, r4, r5, r6)) :
    Calls Try.prog 14 #[.int .i32 a0] w fun e w' => e = .returned (.agg #[.int .i64 r1, .int .i32 r2, .bool r3, .bool r4, .bool r5, .string r6]) ∧ Below w.heap.size w w' := by
 have hu25 := Try.underlying25
 have HB := aM (Below.refl w.heap.size w)
 have H : (some (2, a0, true, false, false, (⟨#[]⟩ : ByteArray))) = some (r1, r2, r3, r4, r5, r6) := h
 clear h
 simp only [Option.some.injEq, Prod.mk.injEq] at H
 obtain ⟨rfl, rfl, rfl, rfl, rfl, rfl⟩ := H
 go_enter Try.func14, Try.ntmps14
 go_wp2_with (first | ((with_reducible refine gate_dst (N := 2) rfl ?_); refine box_event ?hg (N := 2) ?hd (cs := #[.int .i64 0, .int .i32 0, .bool false, .bool false, .bool false, .string (⟨#[]⟩ : ByteArray)]) (t := 25) ?hr ?_; (case hd => rfl); (case hg => rfl); (case hr => first | (go_simp; done) | (go_simp; rfl)); intro gb101 hg w2 hbox hb; have BK101 := aM (hbox); have GW101 := aM ((by rw [hg]; exact (bwZ (by apply_rules (transparency := .reducible) [HB.1, bwA, bwN, bwD])) : w.heap.size ≤ gb101)); have GE101 := aM ((by rw [hg]; exact (bwZ (by apply_rules (transparency := .reducible) [HB.1, bwA, bwN, bwD])) : w.heap.size ≤ gb101)); replace HB := aM (bwP (by apply_rules (transparency := .reducible) [HB.1, bwA, bwN, bwD]) hb); clear hb hbox hg; obtain ⟨z3_0, z3_1, z3_2, z3_3, z3_4, z3_5, z3_6, z3_7, z3_8, z3_9, z3_10, z3_11⟩ := bx6 BK101.1))
 refine bodyPost_ret (results_cell_row rfl _ _ gb101 25 #[.int .i64 2, .int .i32 a0, .bool true, .bool false, .bool false, .string (⟨#[]⟩ : ByteArray)] (0, 0) _ rfl (by (with_reducible repeat first | apply bkN | apply bkD | apply bkA); refine bkU (cs := #[.int .i64 2, .int .i32 a0, .bool true, .bool false, .bool false, .string (⟨#[]⟩ : ByteArray)]) ?_ 5 _ rfl; (with_reducible repeat first | apply bkN | apply bkD | apply bkA); refine bkU (cs := #[.int .i64 2, .int .i32 a0, .bool true, .bool false, .bool false, .string (⟨#[]⟩ : ByteArray)]) ?_ 4 _ rfl; (with_reducible repeat first | apply bkN | apply bkD | apply bkA); refine put4 (cs := #[.int .i64 0, .int .i32 0, .bool false, .bool false, .bool false, .string (⟨#[]⟩ : ByteArray)]) ?_ rfl; (with_reducible repeat first | apply bkN | apply bkD | apply bkA); exact BK101.1) Try.underlying25 rfl (by kernel_rfl)) rfl ?_
 exact ⟨rfl, by apply_rules (transparency := .reducible) [HB.1, bwA, bwN, bwD, bwS, GE101.1]⟩

/-! ### bodkinlaw19_char: function 15 -/
def bodkinlaw19_char.f (a0 : Int) (a1 : Bool) : Option (Int × Int × Bool × Bool × Bool × ByteArray) := some (1, a0, false, a1, false, (⟨#[]⟩ : ByteArray))
set_option maxHeartbeats 8000000 in
set_option maxRecDepth 100000 in
theorem bodkinlaw19_char.calls (a0 : Int) (a1 : Bool) (r1 : Int) (r2 : Int) (r3 : Bool) (r4 : Bool) (r5 : Bool) (r6 : ByteArray) (w : World) (h : bodkinlaw19_char.f a0 a1 = some (r1, r2, r3, r4, r5, r6)) :
    Calls Try.prog 15 #[.int .i32 a0, .bool a1] w fun e w' => e = .returned (.agg #[.int .i64 r1, .int .i32 r2, .bool r3, .bool r4, .bool r5, .string r6]) ∧ Below w.heap.size w w' := by
 have hu25 := Try.underlying25
 have HB := aM (Below.refl w.heap.size w)
 have H : (some (1, a0, false, a1, false, (⟨#[]⟩ : ByteArray))) = some (r1, r2, r3, r4, r5, r6) := h
 clear h
 simp only [Option.some.injEq, Prod.mk.injEq] at H
 obtain ⟨rfl, rfl, rfl, rfl, rfl, rfl⟩ := H
 go_enter Try.func15, Try.ntmps15
 go_wp2_with (first | ((with_reducible refine gate_dst (N := 4) rfl ?_); refine box_event ?hg (N := 4) ?hd (cs := #[.int .i64 0, .int .i32 0, .bool false, .bool false, .bool false, .string (⟨#[]⟩ : ByteArray)]) (t := 25) ?hr ?_; (case hd => rfl); (case hg => rfl); (case hr => first | (go_simp; done) | (go_simp; rfl)); intro gb102 hg w3 hbox hb; have BK102 := aM (hbox); have GW102 := aM ((by rw [hg]; exact (bwZ (by apply_rules (transparency := .reducible) [HB.1, bwA, bwN, bwD])) : w.heap.size ≤ gb102)); have GE102 := aM ((by rw [hg]; exact (bwZ (by apply_rules (transparency := .reducible) [HB.1, bwA, bwN, bwD])) : w.heap.size ≤ gb102)); replace HB := aM (bwP (by apply_rules (transparency := .reducible) [HB.1, bwA, bwN, bwD]) hb); clear hb hbox hg; obtain ⟨z4_0, z4_1, z4_2, z4_3, z4_4, z4_5, z4_6, z4_7, z4_8, z4_9, z4_10, z4_11⟩ := bx6 BK102.1))
 refine bodyPost_ret (results_cell_row rfl _ _ gb102 25 #[.int .i64 1, .int .i32 a0, .bool false, .bool a1, .bool false, .string (⟨#[]⟩ : ByteArray)] (0, 0) _ rfl (by (with_reducible repeat first | apply bkN | apply bkD | apply bkA); refine bkU (cs := #[.int .i64 1, .int .i32 a0, .bool false, .bool a1, .bool false, .string (⟨#[]⟩ : ByteArray)]) ?_ 5 _ rfl; (with_reducible repeat first | apply bkN | apply bkD | apply bkA); refine bkU (cs := #[.int .i64 1, .int .i32 a0, .bool false, .bool a1, .bool false, .string (⟨#[]⟩ : ByteArray)]) ?_ 4 _ rfl; (with_reducible repeat first | apply bkN | apply bkD | apply bkA); refine put4 (cs := #[.int .i64 0, .int .i32 0, .bool false, .bool false, .bool false, .string (⟨#[]⟩ : ByteArray)]) ?_ rfl; (with_reducible repeat first | apply bkN | apply bkD | apply bkA); exact BK102.1) Try.underlying25 rfl (by kernel_rfl)) rfl ?_
 exact ⟨rfl, by apply_rules (transparency := .reducible) [HB.1, bwA, bwN, bwD, bwS, GE102.1]⟩

/-- A state of type 53 at block g of W; what its slices lead to came in by w0. -/
def IsS53 (w0 W : World) (g : Nat) (f0 : Int) (f1 : Bool) (f2 : Int) : Prop := W.heap[g]? = some (.cells #[.int .u8 f0, .bool f1, .int .i64 f2] 53 (0, 0)) ∧ w0.heap.size ≤ g
theorem IsS53.grown {w0 W : World} {g : Nat} {f0 : Int} {f1 : Bool} {f2 : Int} {W1 : World} {row : Option Nat} (h : IsS53 w0 W g f0 f1 f2) (hw : W.grownBy W1 row) (hne : some g ≠ row) : IsS53 w0 W1 g f0 f1 f2 := by
 obtain ⟨hb, hg⟩ := h
 exact ⟨blk_grown hb hw hne, hg⟩
theorem IsS53.own_neN {w0 W : World} {g : Nat} {f0 : Int} {f1 : Bool} {f2 : Int} {α : Type} {d : Kd α} {e : Nat} {base : Nat} {ok : Nat → Prop} {v : Value} {xs : List α} (h : IsS53 w0 W g f0 f1 f2) (ho : Kd.N d e W base ok v xs) (ht : e ≠ 53) : some g ≠ v.ownBlock := by
 obtain ⟨hb, hg⟩ := h
 exact Kd.N_ne ho hb ht
theorem IsS53.fresh {w0 W : World} {g : Nat} {f0 : Int} {f1 : Bool} {f2 : Int} (h : IsS53 w0 W g f0 f1 f2) : ∀ k, W.heap.size ≤ k → k ≠ g := by
 obtain ⟨hb, hg⟩ := h
 exact Kd.freshB hb
theorem IsS53.kept {w0 W : World} {g : Nat} {f0 : Int} {f1 : Bool} {f2 : Int} {W1 : World} {S : Nat → Prop} (h : IsS53 w0 W g f0 f1 f2) (hk : Kept W W1 S) (hne : ¬ S g) : IsS53 w0 W1 g f0 f1 f2 := by
 obtain ⟨hb, hg⟩ := h
 exact ⟨blk_kept hb hk hne, hg⟩
theorem IsS53.below {w0 W : World} {g : Nat} {f0 : Int} {f1 : Bool} {f2 : Int} {W1 : World} (h : IsS53 w0 W g f0 f1 f2) (hw : Below W.heap.size W W1) : IsS53 w0 W1 g f0 f1 f2 := h.grown (grown_of_below hw none) (by simp)
theorem IsS53.alloc {w0 W : World} {g : Nat} {f0 : Int} {f1 : Bool} {f2 : Int} (h : IsS53 w0 W g f0 f1 f2) (o : Obj) : IsS53 w0 (W.alloc o) g f0 f1 f2 := h.below (bwA (Below.refl _ _) o)
theorem IsS53.drewN {w0 W : World} {g : Nat} {f0 : Int} {f1 : Bool} {f2 : Int} (h : IsS53 w0 W g f0 f1 f2) (m : Nat) : IsS53 w0 (W.drewN m) g f0 f1 f2 := h
theorem IsS53.drew {w0 W : World} {g : Nat} {f0 : Int} {f1 : Bool} {f2 : Int} (h : IsS53 w0 W g f0 f1 f2) : IsS53 w0 W.drew g f0 f1 f2 := h
theorem IsS53.at_ {w0 W : World} {g : Nat} {f0 : Int} {f1 : Bool} {f2 : Int} {w' : World} {m : Nat} (hq : W.drewN m = w') (h : IsS53 w0 W g f0 f1 f2) : IsS53 w0 w' g f0 f1 f2 := by subst hq; exact IsS53.drewN h m
theorem IsS53.apart {w0 W : World} {g : Nat} {f0 : Int} {f1 : Bool} {f2 : Int} {α : Type} {d : Kd α} {e : Nat} {base : Nat} {ok : Nat → Prop} {v : Value} {xs : List α} (h : IsS53 w0 W g f0 f1 f2) (ho : d.R e W base ok v xs) (ht : ∀ q, q ∈ e :: d.E → q ≠ 53) : d.R e W base (fun k => ok k ∧ k ≠ g) v xs := by
 obtain ⟨hb, hg⟩ := h
 exact Kd.R_types ho hb ht
theorem IsS53.own_ne {w0 W : World} {g : Nat} {f0 : Int} {f1 : Bool} {f2 : Int} {α : Type} {d : Kd α} {e : Nat} {base : Nat} {ok : Nat → Prop} {v : Value} {xs : List α} (h : IsS53 w0 W g f0 f1 f2) (ho : d.R e W base ok v xs) (ht : e ≠ 53) : some g ≠ v.ownBlock := by
 obtain ⟨hb, hg⟩ := h
 exact Kd.R_ne ho hb ht
theorem IsS53.apartQ {w0 W : World} {g : Nat} {f0 : Int} {f1 : Bool} {f2 : Int} {α : Type} {d : Kd α} {e : Nat} {base : Nat} {ok : Nat → Prop} {v : Value} {xs : List α} (h : IsS53 w0 W g f0 f1 f2) (ho : d.Q e W base ok v xs) (ht : ∀ q, q ∈ e :: d.E → q ≠ 53) : d.Q e W base (fun k => ok k ∧ k ≠ g) v xs := by
 obtain ⟨hb, hg⟩ := h
 exact Kd.Q_types ho hb ht
theorem IsS53.own_neQ {w0 W : World} {g : Nat} {f0 : Int} {f1 : Bool} {f2 : Int} {α : Type} {d : Kd α} {e : Nat} {base : Nat} {ok : Nat → Prop} {v : Value} {xs : List α} (h : IsS53 w0 W g f0 f1 f2) (ho : d.Q e W base ok v xs) (ht : e ≠ 53) : some g ≠ v.ownBlock := by
 obtain ⟨hb, hg⟩ := h
 exact Kd.Q_ne ho hb ht
theorem IsS53.apartS {w0 W : World} {g : Nat} {f0 : Int} {f1 : Bool} {f2 : Int} {α : Type} {d : Kd α} {e : Nat} {base : Nat} {ok : Nat → Prop} {v : Value} {xs : List α} (h : IsS53 w0 W g f0 f1 f2) (ho : d.S e W base ok v xs) (ht : ∀ q, q ∈ e :: d.E → q ≠ 53) : d.S e W base (fun k => ok k ∧ k ≠ g) v xs := by
 obtain ⟨hb, hg⟩ := h
 exact Kd.S_types ho hb ht
theorem IsS53.own_neS {w0 W : World} {g : Nat} {f0 : Int} {f1 : Bool} {f2 : Int} {α : Type} {d : Kd α} {e : Nat} {base : Nat} {ok : Nat → Prop} {v : Value} {xs : List α} (h : IsS53 w0 W g f0 f1 f2) (ho : d.S e W base ok v xs) (ht : e ≠ 53) : some g ≠ v.ownBlock := by
 obtain ⟨hb, hg⟩ := h
 exact Kd.S_ne ho hb ht
theorem IsS53.lt {w0 W : World} {g : Nat} {f0 : Int} {f1 : Bool} {f2 : Int} (h : IsS53 w0 W g f0 f1 f2) : g < W.heap.size := by
 obtain ⟨hb, hg⟩ := h
 exact blk_lt hb
theorem IsS53.ge {w0 W : World} {g : Nat} {f0 : Int} {f1 : Bool} {f2 : Int} (h : IsS53 w0 W g f0 f1 f2) : w0.heap.size ≤ g := by
 obtain ⟨hb, hg⟩ := h
 exact hg
theorem IsS53.ne_blk {w0 W : World} {g : Nat} {f0 : Int} {f1 : Bool} {f2 : Int} {a : Nat} {cs : Array Value} {t : TypeId} {fr : Nat × Nat} (h : IsS53 w0 W g f0 f1 f2) (hb2 : W.heap[a]? = some (.cells cs t fr)) (ht : t ≠ 53) : g ≠ a := by
 obtain ⟨hb, hg⟩ := h
 rintro rfl
 rw [hb] at hb2
 injection hb2 with hb2
 injection hb2 with _ ht2
 exact ht ht2.symm
theorem IsS53.far {w0 W : World} {g : Nat} {f0 : Int} {f1 : Bool} {f2 : Int} {p : Addr} (h : IsS53 w0 W g f0 f1 f2) (hne : g ≠ p.block) (u : Value) : IsS53 w0 (W.setCell p u) g f0 f1 f2 := by
 obtain ⟨hb, hg⟩ := h
 exact ⟨blk_far hb hne u, hg⟩
theorem cellS53_0 {W : World} {g : Nat} {f0 : Int} {f1 : Bool} {f2 : Int} (h : W.heap[g]? = some (.cells #[.int .u8 f0, .bool f1, .int .i64 f2] 53 (0, 0))) : W.cell? ⟨g, 0, none⟩ = some (.int .u8 f0) := (blk_cell h 0).trans rfl
theorem IsS53.set_0 {w0 W : World} {g : Nat} {f0 : Int} {f1 : Bool} {f2 : Int} (h : IsS53 w0 W g f0 f1 f2) (x : Int) : IsS53 w0 (W.setCell ⟨g, 0, none⟩ (.int .u8 x)) g x f1 f2 := by
 obtain ⟨hb, hg⟩ := h
 exact ⟨by simpa using blk_set hb 0 (.int .u8 x), hg⟩
theorem cellS53_1 {W : World} {g : Nat} {f0 : Int} {f1 : Bool} {f2 : Int} (h : W.heap[g]? = some (.cells #[.int .u8 f0, .bool f1, .int .i64 f2] 53 (0, 0))) : W.cell? ⟨g, 1, none⟩ = some (.bool f1) := (blk_cell h 1).trans rfl
theorem IsS53.set_1 {w0 W : World} {g : Nat} {f0 : Int} {f1 : Bool} {f2 : Int} (h : IsS53 w0 W g f0 f1 f2) (x : Bool) : IsS53 w0 (W.setCell ⟨g, 1, none⟩ (.bool x)) g f0 x f2 := by
 obtain ⟨hb, hg⟩ := h
 exact ⟨by simpa using blk_set hb 1 (.bool x), hg⟩
theorem cellS53_2 {W : World} {g : Nat} {f0 : Int} {f1 : Bool} {f2 : Int} (h : W.heap[g]? = some (.cells #[.int .u8 f0, .bool f1, .int .i64 f2] 53 (0, 0))) : W.cell? ⟨g, 2, none⟩ = some (.int .i64 f2) := (blk_cell h 2).trans rfl
theorem IsS53.set_2 {w0 W : World} {g : Nat} {f0 : Int} {f1 : Bool} {f2 : Int} (h : IsS53 w0 W g f0 f1 f2) (x : Int) : IsS53 w0 (W.setCell ⟨g, 2, none⟩ (.int .i64 x)) g f0 f1 x := by
 obtain ⟨hb, hg⟩ := h
 exact ⟨by simpa using blk_set hb 2 (.int .i64 x), hg⟩
theorem IsS53.new (w0 W : World) (f0 : Int) (f1 : Bool) (f2 : Int) (hB : Below w0.heap.size w0 W) : IsS53 w0 (W.alloc (.cells #[.int .u8 f0, .bool f1, .int .i64 f2] 53)) W.heap.size f0 f1 f2 := ⟨by simpa using heap_alloc_new W _, hB.size⟩

/-! ### bind_New: function 21 -/
def bind_New.f  : Option (Int × Bool × Int) := some (0, false, 0)
set_option maxHeartbeats 8000000 in
set_option maxRecDepth 100000 in
theorem bind_New.calls  (r1 : Int) (r2 : Bool) (r3 : Int) (w0 w : World) (hB : Below w0.heap.size w0 w) (h : bind_New.f  = some (r1, r2, r3)) :
    Calls Try.prog 21 #[] w fun e w' => ∃ g_ : Nat, e = .returned (.pointer (some ⟨g_, 0, none⟩)) ∧ IsS53 w0 w' g_ r1 r2 r3 ∧ Below w0.heap.size w0 w' ∧ Below w.heap.size w w' := by
 have hu53 := Try.underlying53
 have HBW := aM (Below.refl w.heap.size w)
 have HW0 := aM hB.size
 have HB := aM hB
 clear hB
 have H : (some (0, false, 0)) = some (r1, r2, r3) := h
 clear h
 simp only [Option.some.injEq, Prod.mk.injEq] at H
 obtain ⟨rfl, rfl, rfl⟩ := H
 go_enter Try.func21, Try.ntmps21
 go_wp2_with (first | ((with_reducible refine gate_dst (N := 2) rfl ?_); refine box_event ?hg (N := 2) ?hd (cs := #[.int .u8 0, .bool false, .int .i64 0]) (t := 53) ?hr ?_; (case hd => rfl); (case hg => rfl); (case hr => first | (go_simp; done) | (go_simp; rfl)); intro gb103 hg w1 hbox hb; replace HB := aM (bwP (by apply_rules (transparency := .reducible) [HB.1, bwA, bwN, bwD]) hb); have BK103 := aM (hbox); have GW103 := aM ((by rw [hg]; exact (bwZ (by apply_rules (transparency := .reducible) [HBW.out, bwA, bwN, bwD])) : w.heap.size ≤ gb103)); have GE103 := aM ((Nat.le_trans HW0.out (by rw [hg]; exact (bwZ (by apply_rules (transparency := .reducible) [HBW.out, bwA, bwN, bwD])) : w.heap.size ≤ gb103) : w0.heap.size ≤ gb103)); replace HBW := aM (bwP HBW.out hb); clear hb hbox hg))
 go_ret
 exact ⟨_, rfl, (show IsS53 w0 _ gb103 0 false 0 from ⟨by apply_rules (transparency := .reducible) [BK103.1, bkN, bkD, bkA], GE103.1⟩), by apply_rules (transparency := .reducible) [HB.1, bwA, bwN, bwD, bwS, GE103.1], by apply_rules (transparency := .reducible) [HBW.out, bwA, bwN, bwD, bwS, GW103.1]⟩

/-! ### bind_Binder_Count: function 24 -/
def bind_Binder_Count.f (s0_0 : Int) (s0_1 : Bool) (s0_2 : Int) : Option (Int × Bool × Int × Bool × Int) := if s0_1 = true then (some (mx s0_2 1, true, s0_0, s0_1, s0_2)) else (some (1, false, s0_0, s0_1, s0_2))
set_option maxHeartbeats 8000000 in
set_option maxRecDepth 100000 in
theorem bind_Binder_Count.calls (g : Nat) (s0_0 : Int) (s0_1 : Bool) (s0_2 : Int) (r1 : Int) (r2 : Bool) (r3 : Int) (r4 : Bool) (r5 : Int) (w0 w : World) (hI : IsS53 w0 w g s0_0 s0_1 s0_2) (hB : Below w0.heap.size w0 w) (h : bind_Binder_Count.f s0_0 s0_1 s0_2 = some (r1, r2, r3, r4, r5)) :
    Calls Try.prog 24 #[.pointer (some ⟨g, 0, none⟩)] w fun e w' => e = .returned (.tuple #[.int .i64 r1, .bool r2]) ∧ IsS53 w0 w' g r3 r4 r5 ∧ Below w0.heap.size w0 w' ∧ KeepBut w w' g none := by
 have HI0 := aM hI
 have HK := aM (KeepBut.refl w g none)
 have HL := aM hB.size
 clear hI
 have HW0 := aM hB.size
 have HB := aM hB
 clear hB
 have H : (if s0_1 = true then (some (mx s0_2 1, true, s0_0, s0_1, s0_2)) else (some (1, false, s0_0, s0_1, s0_2))) = some (r1, r2, r3, r4, r5) := h
 clear h
 by_cases c2 : s0_1 = true
 ·subst c2
  replace H : (some (mx s0_2 1, true, s0_0, true, s0_2)) = some (r1, r2, r3, r4, r5) := by rw [if_pos rfl] at H; exact H
  obtain ⟨ji3, hji3⟩ : ∃ j_ : Int, (mx s0_2 1) = j_ := ⟨_, rfl⟩
  replace H : (some (ji3, true, s0_0, true, s0_2)) = some (r1, r2, r3, r4, r5) := by first | (rw [hji3] at H; exact H) | (simp only [hji3] at H ⊢; exact H)
  (try (have hji3l : 1 ≤ ji3 := by (rw [← hji3]; unfold mx; (repeat' split) <;> omega)))
  (try (have hji3m : 0 ≤ ji3 := by omega))
  have hji3_ : (if s0_2 < 1 then 1 else s0_2) = ji3 := hji3
  simp only [Option.some.injEq, Prod.mk.injEq] at H
  obtain ⟨rfl, rfl, rfl, rfl, rfl⟩ := H
  obtain ⟨HGz4, hgz4⟩ := HI0.1
  have hcz4_0 := cellS53_0 HGz4
  have hcz4_1 := cellS53_1 HGz4
  have hcz4_2 := cellS53_2 HGz4
  have hfz4_0 := bkF HGz4 0
  have hfz4_1 := bkF HGz4 1
  have hfz4_2 := bkF HGz4 2
  clear HGz4 hgz4
  go_enter Try.func24, Try.ntmps24
  go_wp2
  go_ret2
  exact ⟨by first | rfl | (simp [errW_none, errW_some] <;> rfl) | (simp only [← hji3]; first | rfl | (simp [errW_none, errW_some] <;> rfl)) | (simp [*, errW_none, errW_some] <;> rfl), by apply_rules (transparency := .reducible) [HI0.1, IsS53.alloc, IsS53.drewN, IsS53.drew, IsS53.set_0, IsS53.set_1, IsS53.set_2], by apply_rules (transparency := .reducible) [HB.1, bwA, bwN, bwD, bwS, (IsS53.ge HI0.1)], by apply_rules (transparency := .reducible) [HK.1, KeepBut.set_, kpN, kpD, kpA]⟩
 replace c2 := Bool.eq_false_iff.mpr c2
 subst c2
 replace H : (some (1, false, s0_0, false, s0_2)) = some (r1, r2, r3, r4, r5) := by rw [if_neg (show ¬ (false = true) by decide)] at H; exact H
 simp only [Option.some.injEq, Prod.mk.injEq] at H
 obtain ⟨rfl, rfl, rfl, rfl, rfl⟩ := H
 obtain ⟨HGz5, hgz5⟩ := HI0.1
 have hcz5_0 := cellS53_0 HGz5
 have hcz5_1 := cellS53_1 HGz5
 have hcz5_2 := cellS53_2 HGz5
 have hfz5_0 := bkF HGz5 0
 have hfz5_1 := bkF HGz5 1
 have hfz5_2 := bkF HGz5 2
 clear HGz5 hgz5
 go_enter Try.func24, Try.ntmps24
 go_wp2
 go_ret2
 exact ⟨rfl, by apply_rules (transparency := .reducible) [HI0.1, IsS53.alloc, IsS53.drewN, IsS53.drew, IsS53.set_0, IsS53.set_1, IsS53.set_2], by apply_rules (transparency := .reducible) [HB.1, bwA, bwN, bwD, bwS, (IsS53.ge HI0.1)], by apply_rules (transparency := .reducible) [HK.1, KeepBut.set_, kpN, kpD, kpA]⟩

/-! ### bind_Binder_Reset: function 30 -/
def bind_Binder_Reset.f (s0_0 : Int) (s0_1 : Bool) (s0_2 : Int) : Option (Int × Bool × Int) := some (0, false, 0)
set_option maxHeartbeats 8000000 in
set_option maxRecDepth 100000 in
theorem bind_Binder_Reset.calls (g : Nat) (s0_0 : Int) (s0_1 : Bool) (s0_2 : Int) (r1 : Int) (r2 : Bool) (r3 : Int) (w0 w : World) (hI : IsS53 w0 w g s0_0 s0_1 s0_2) (hB : Below w0.heap.size w0 w) (h : bind_Binder_Reset.f s0_0 s0_1 s0_2 = some (r1, r2, r3)) :
    Calls Try.prog 30 #[.pointer (some ⟨g, 0, none⟩)] w fun e w' => e = .returned (.tuple #[]) ∧ IsS53 w0 w' g r1 r2 r3 ∧ Below w0.heap.size w0 w' ∧ KeepBut w w' g none := by
 have hu53 := Try.underlying53
 have HI0 := aM hI
 have HK := aM (KeepBut.refl w g none)
 have HL := aM hB.size
 clear hI
 have HW0 := aM hB.size
 have HB := aM hB
 clear hB
 have H : (some (0, false, 0)) = some (r1, r2, r3) := h
 clear h
 simp only [Option.some.injEq, Prod.mk.injEq] at H
 obtain ⟨rfl, rfl, rfl⟩ := H
 obtain ⟨HGz2, hgz2⟩ := HI0.1
 have hcz2_0 := cellS53_0 HGz2
 have hcz2_1 := cellS53_1 HGz2
 have hcz2_2 := cellS53_2 HGz2
 have hfz2_0 := bkF HGz2 0
 have hfz2_1 := bkF HGz2 1
 have hfz2_2 := bkF HGz2 2
 clear HGz2 hgz2
 go_enter Try.func30, Try.ntmps30
 go_wp2
 first | go_end0 | ((try simp only [Exit.inBlock, Exit.then]); refine bodyPost_ret (results_none rfl _ _ _) rfl ?_)
 exact ⟨rfl, by apply_rules (transparency := .reducible) [HI0.1, IsS53.alloc, IsS53.drewN, IsS53.drew, IsS53.set_0, IsS53.set_1, IsS53.set_2], by apply_rules (transparency := .reducible) [HB.1, bwA, bwN, bwD, bwS, (IsS53.ge HI0.1)], by apply_rules (transparency := .reducible) [HK.1, KeepBut.set_, kpN, kpD, kpA]⟩

/-! ### bind_Binder_digit: function 31 -/
def bind_Binder_digit.f (s0_0 : Int) (s0_1 : Bool) (s0_2 : Int) (a1_0 : Int) (a1_1 : Int) (a1_2 : Bool) (a1_3 : Bool) (a1_4 : Bool) (a1_5 : ByteArray) : Option (Bool × Int × Bool × Int) := if s0_0 = 0 then (if a1_0 = 1 then (if a1_2 = true then (some (false, s0_0, s0_1, s0_2)) else (if a1_1 ≥ 48 then (if a1_1 ≤ 57 then (if a1_3 = true then (some (true, s0_0, s0_1, s0_2)) else (some (s0_1, s0_0, s0_1, s0_2))) else (some (false, s0_0, s0_1, s0_2))) else (some (false, s0_0, s0_1, s0_2)))) else (some (false, s0_0, s0_1, s0_2))) else (some (false, s0_0, s0_1, s0_2))
set_option maxHeartbeats 8000000 in
set_option maxRecDepth 100000 in
theorem bind_Binder_digit.calls (g : Nat) (s0_0 : Int) (s0_1 : Bool) (s0_2 : Int) (a1_0 : Int) (a1_1 : Int) (a1_2 : Bool) (a1_3 : Bool) (a1_4 : Bool) (a1_5 : ByteArray) (r1 : Bool) (r2 : Int) (r3 : Bool) (r4 : Int) (w0 w : World) (hI : IsS53 w0 w g s0_0 s0_1 s0_2) (hB : Below w0.heap.size w0 w) (h : bind_Binder_digit.f s0_0 s0_1 s0_2 a1_0 a1_1 a1_2 a1_3 a1_4 a1_5 = some (r1, r2, r3, r4)) :
    Calls Try.prog 31 #[.pointer (some ⟨g, 0, none⟩), .agg #[.int .i64 a1_0, .int .i32 a1_1, .bool a1_2, .bool a1_3, .bool a1_4, .string a1_5]] w fun e w' => e = .returned (.bool r1) ∧ IsS53 w0 w' g r2 r3 r4 ∧ Below w0.heap.size w0 w' ∧ KeepBut w w' g none := by
 have hu25 := Try.underlying25
 have HI0 := aM hI
 have HK := aM (KeepBut.refl w g none)
 have HL := aM hB.size
 clear hI
 have HW0 := aM hB.size
 have HB := aM hB
 clear hB
 have H : (if s0_0 = 0 then (if a1_0 = 1 then (if a1_2 = true then (some (false, s0_0, s0_1, s0_2)) else (if a1_1 ≥ 48 then (if a1_1 ≤ 57 then (if a1_3 = true then (some (true, s0_0, s0_1, s0_2)) else (some (s0_1, s0_0, s0_1, s0_2))) else (some (false, s0_0, s0_1, s0_2))) else (some (false, s0_0, s0_1, s0_2)))) else (some (false, s0_0, s0_1, s0_2))) else (some (false, s0_0, s0_1, s0_2))) = some (r1, r2, r3, r4) := h
 clear h
 by_cases c3 : s0_0 = 0
 ·rw [if_pos c3] at H
  have c3b0 : (s0_0 == 0) = true := beq_iff_eq.mpr c3
  have c3b1 : (s0_0 != 0) = false := bne_eq_false_iff_eq.mpr c3
  clear c3
  by_cases c4 : a1_0 = 1
  ·rw [if_pos c4] at H
   have c4b0 : (a1_0 == 1) = true := beq_iff_eq.mpr c4
   have c4b1 : (a1_0 != 1) = false := bne_eq_false_iff_eq.mpr c4
   clear c4
   by_cases c5 : a1_2 = true
   ·subst c5
    replace H : (some (false, s0_0, s0_1, s0_2)) = some (r1, r2, r3, r4) := by rw [if_pos rfl] at H; exact H
    simp only [Option.some.injEq, Prod.mk.injEq] at H
    obtain ⟨rfl, rfl, rfl, rfl⟩ := H
    go_enter Try.func31, Try.ntmps31
    go_wp2_with (first | ((with_reducible refine gate_dst (N := 3) rfl ?_); refine box_event ?hg (N := 3) ?hd (cs := #[.int .i64 a1_0, .int .i32 a1_1, .bool true, .bool a1_3, .bool a1_4, .string a1_5]) (t := 25) ?hr ?_; (case hd => rfl); (case hg => rfl); (case hr => first | (go_simp; done) | (go_simp; rfl)); intro gb104 hg w6 hbox hb; replace HB := aM (bwP (by apply_rules (transparency := .reducible) [HB.1, bwA, bwN, bwD, bwS, (IsS53.ge HI0.1)]) hb); have BK104 := aM (hbox); have GW104 := aM ((by rw [hg]; exact (keep_size (w := w) (g := g) (row := none) (by apply_rules (transparency := .reducible) [HK.1, KeepBut.set_, kpN, kpD, kpA])) : w.heap.size ≤ gb104)); have GE104 := aM ((Nat.le_trans HW0.out (by rw [hg]; exact (keep_size (w := w) (g := g) (row := none) (by apply_rules (transparency := .reducible) [HK.1, KeepBut.set_, kpN, kpD, kpA])) : w.heap.size ≤ gb104) : w0.heap.size ≤ gb104)); replace HK := aM (KeepBut.trans (by apply_rules (transparency := .reducible) [HK.1, KeepBut.set_, kpN, kpD, kpA]) (KeepBut.of_below hb g none) (.inl rfl)); have NB0_104 := aM ((by rw [hg]; exact Nat.ne_of_lt (IsS53.lt (show IsS53 w0 _ g s0_0 s0_1 s0_2 from by apply_rules (transparency := .reducible) [HI0.1, IsS53.alloc, IsS53.drewN, IsS53.drew, IsS53.set_0, IsS53.set_1, IsS53.set_2])) : g ≠ gb104)); have NB104_0 := aM ((by rw [hg]; exact Nat.ne_of_gt (IsS53.lt (show IsS53 w0 _ g s0_0 s0_1 s0_2 from by apply_rules (transparency := .reducible) [HI0.1, IsS53.alloc, IsS53.drewN, IsS53.drew, IsS53.set_0, IsS53.set_1, IsS53.set_2])) : gb104 ≠ g)); replace HI0 := aM (IsS53.below (by apply_rules (transparency := .reducible) [HI0.1, IsS53.alloc, IsS53.drewN, IsS53.drew, IsS53.set_0, IsS53.set_1, IsS53.set_2]) hb); clear hb hbox hg; obtain ⟨HGz7, hgz7⟩ := HI0.1; have hcz7_0 := cellS53_0 HGz7; have hcz7_1 := cellS53_1 HGz7; have hcz7_2 := cellS53_2 HGz7; have hfz7_0 := bkF HGz7 0; have hfz7_1 := bkF HGz7 1; have hfz7_2 := bkF HGz7 2; clear HGz7 hgz7; have hnb8 := NB104_0.1; have hnc8 := NB0_104.1; obtain ⟨z9_0, z9_1, z9_2, z9_3, z9_4, z9_5, z9_6, z9_7, z9_8, z9_9, z9_10, z9_11⟩ := bx6 BK104.1))
    go_ret
    exact ⟨rfl, by repeat (first | (with_reducible first | exact HI0.1 | apply IsS53.alloc | apply IsS53.drewN | apply IsS53.drew | apply IsS53.set_0 | apply IsS53.set_1 | apply IsS53.set_2 | refine IsS53.far ?_ NB0_104.1 _) | exact HI0.1), by apply_rules (transparency := .reducible) [HB.1, bwA, bwN, bwD, bwS, (IsS53.ge HI0.1), GE104.1], by repeat (first | (with_reducible first | exact HK.1 | apply KeepBut.set_ | apply kpN | apply kpD | apply kpA | refine keep_far ?_ GW104.1 _) | exact HK.1)⟩
   replace c5 := Bool.eq_false_iff.mpr c5
   subst c5
   replace H : (if a1_1 ≥ 48 then (if a1_1 ≤ 57 then (if a1_3 = true then (some (true, s0_0, s0_1, s0_2)) else (some (s0_1, s0_0, s0_1, s0_2))) else (some (false, s0_0, s0_1, s0_2))) else (some (false, s0_0, s0_1, s0_2))) = some (r1, r2, r3, r4) := by rw [if_neg (show ¬ (false = true) by decide)] at H; exact H
   by_cases c10 : a1_1 ≥ 48
   ·rw [if_pos c10] at H
    have c10b0 : decide (48 ≤ a1_1) = true := decide_eq_true c10
    clear c10
    by_cases c11 : a1_1 ≤ 57
    ·rw [if_pos c11] at H
     have c11b0 : decide (a1_1 ≤ 57) = true := decide_eq_true c11
     clear c11
     by_cases c12 : a1_3 = true
     ·subst c12
      replace H : (some (true, s0_0, s0_1, s0_2)) = some (r1, r2, r3, r4) := by rw [if_pos rfl] at H; exact H
      simp only [Option.some.injEq, Prod.mk.injEq] at H
      obtain ⟨rfl, rfl, rfl, rfl⟩ := H
      go_enter Try.func31, Try.ntmps31
      go_wp2_with (first | ((with_reducible refine gate_dst (N := 3) rfl ?_); refine box_event ?hg (N := 3) ?hd (cs := #[.int .i64 a1_0, .int .i32 a1_1, .bool false, .bool true, .bool a1_4, .string a1_5]) (t := 25) ?hr ?_; (case hd => rfl); (case hg => rfl); (case hr => first | (go_simp; done) | (go_simp; rfl)); intro gb104 hg w13 hbox hb; replace HB := aM (bwP (by apply_rules (transparency := .reducible) [HB.1, bwA, bwN, bwD, bwS, (IsS53.ge HI0.1)]) hb); have BK104 := aM (hbox); have GW104 := aM ((by rw [hg]; exact (keep_size (w := w) (g := g) (row := none) (by apply_rules (transparency := .reducible) [HK.1, KeepBut.set_, kpN, kpD, kpA])) : w.heap.size ≤ gb104)); have GE104 := aM ((Nat.le_trans HW0.out (by rw [hg]; exact (keep_size (w := w) (g := g) (row := none) (by apply_rules (transparency := .reducible) [HK.1, KeepBut.set_, kpN, kpD, kpA])) : w.heap.size ≤ gb104) : w0.heap.size ≤ gb104)); replace HK := aM (KeepBut.trans (by apply_rules (transparency := .reducible) [HK.1, KeepBut.set_, kpN, kpD, kpA]) (KeepBut.of_below hb g none) (.inl rfl)); have NB0_104 := aM ((by rw [hg]; exact Nat.ne_of_lt (IsS53.lt (show IsS53 w0 _ g s0_0 s0_1 s0_2 from by apply_rules (transparency := .reducible) [HI0.1, IsS53.alloc, IsS53.drewN, IsS53.drew, IsS53.set_0, IsS53.set_1, IsS53.set_2])) : g ≠ gb104)); have NB104_0 := aM ((by rw [hg]; exact Nat.ne_of_gt (IsS53.lt (show IsS53 w0 _ g s0_0 s0_1 s0_2 from by apply_rules (transparency := .reducible) [HI0.1, IsS53.alloc, IsS53.drewN, IsS53.drew, IsS53.set_0, IsS53.set_1, IsS53.set_2])) : gb104 ≠ g)); replace HI0 := aM (IsS53.below (by apply_rules (transparency := .reducible) [HI0.1, IsS53.alloc, IsS53.drewN, IsS53.drew, IsS53.set_0, IsS53.set_1, IsS53.set_2]) hb); clear hb hbox hg; obtain ⟨HGz14, hgz14⟩ := HI0.1; have hcz14_0 := cellS53_0 HGz14; have hcz14_1 := cellS53_1 HGz14; have hcz14_2 := cellS53_2 HGz14; have hfz14_0 := bkF HGz14 0; have hfz14_1 := bkF HGz14 1; have hfz14_2 := bkF HGz14 2; clear HGz14 hgz14; have hnb15 := NB104_0.1; have hnc15 := NB0_104.1; obtain ⟨z16_0, z16_1, z16_2, z16_3, z16_4, z16_5, z16_6, z16_7, z16_8, z16_9, z16_10, z16_11⟩ := bx6 BK104.1))
      go_ret
      exact ⟨rfl, by repeat (first | (with_reducible first | exact HI0.1 | apply IsS53.alloc | apply IsS53.drewN | apply IsS53.drew | apply IsS53.set_0 | apply IsS53.set_1 | apply IsS53.set_2 | refine IsS53.far ?_ NB0_104.1 _) | exact HI0.1), by apply_rules (transparency := .reducible) [HB.1, bwA, bwN, bwD, bwS, (IsS53.ge HI0.1), GE104.1], by repeat (first | (with_reducible first | exact HK.1 | apply KeepBut.set_ | apply kpN | apply kpD | apply kpA | refine keep_far ?_ GW104.1 _) | exact HK.1)⟩
     replace c12 := Bool.eq_false_iff.mpr c12
     subst c12
     replace H : (some (s0_1, s0_0, s0_1, s0_2)) = some (r1, r2, r3, r4) := by rw [if_neg (show ¬ (false = true) by decide)] at H; exact H
     simp only [Option.some.injEq, Prod.mk.injEq] at H
     obtain ⟨rfl, rfl, rfl, rfl⟩ := H
     go_enter Try.func31, Try.ntmps31
     go_wp2_with (first | ((with_reducible refine gate_dst (N := 3) rfl ?_); refine box_event ?hg (N := 3) ?hd (cs := #[.int .i64 a1_0, .int .i32 a1_1, .bool false, .bool false, .bool a1_4, .string a1_5]) (t := 25) ?hr ?_; (case hd => rfl); (case hg => rfl); (case hr => first | (go_simp; done) | (go_simp; rfl)); intro gb104 hg w17 hbox hb; replace HB := aM (bwP (by apply_rules (transparency := .reducible) [HB.1, bwA, bwN, bwD, bwS, (IsS53.ge HI0.1)]) hb); have BK104 := aM (hbox); have GW104 := aM ((by rw [hg]; exact (keep_size (w := w) (g := g) (row := none) (by apply_rules (transparency := .reducible) [HK.1, KeepBut.set_, kpN, kpD, kpA])) : w.heap.size ≤ gb104)); have GE104 := aM ((Nat.le_trans HW0.out (by rw [hg]; exact (keep_size (w := w) (g := g) (row := none) (by apply_rules (transparency := .reducible) [HK.1, KeepBut.set_, kpN, kpD, kpA])) : w.heap.size ≤ gb104) : w0.heap.size ≤ gb104)); replace HK := aM (KeepBut.trans (by apply_rules (transparency := .reducible) [HK.1, KeepBut.set_, kpN, kpD, kpA]) (KeepBut.of_below hb g none) (.inl rfl)); have NB0_104 := aM ((by rw [hg]; exact Nat.ne_of_lt (IsS53.lt (show IsS53 w0 _ g s0_0 s0_1 s0_2 from by apply_rules (transparency := .reducible) [HI0.1, IsS53.alloc, IsS53.drewN, IsS53.drew, IsS53.set_0, IsS53.set_1, IsS53.set_2])) : g ≠ gb104)); have NB104_0 := aM ((by rw [hg]; exact Nat.ne_of_gt (IsS53.lt (show IsS53 w0 _ g s0_0 s0_1 s0_2 from by apply_rules (transparency := .reducible) [HI0.1, IsS53.alloc, IsS53.drewN, IsS53.drew, IsS53.set_0, IsS53.set_1, IsS53.set_2])) : gb104 ≠ g)); replace HI0 := aM (IsS53.below (by apply_rules (transparency := .reducible) [HI0.1, IsS53.alloc, IsS53.drewN, IsS53.drew, IsS53.set_0, IsS53.set_1, IsS53.set_2]) hb); clear hb hbox hg; obtain ⟨HGz18, hgz18⟩ := HI0.1; have hcz18_0 := cellS53_0 HGz18; have hcz18_1 := cellS53_1 HGz18; have hcz18_2 := cellS53_2 HGz18; have hfz18_0 := bkF HGz18 0; have hfz18_1 := bkF HGz18 1; have hfz18_2 := bkF HGz18 2; clear HGz18 hgz18; have hnb19 := NB104_0.1; have hnc19 := NB0_104.1; obtain ⟨z20_0, z20_1, z20_2, z20_3, z20_4, z20_5, z20_6, z20_7, z20_8, z20_9, z20_10, z20_11⟩ := bx6 BK104.1))
     go_ret
     exact ⟨rfl, by repeat (first | (with_reducible first | exact HI0.1 | apply IsS53.alloc | apply IsS53.drewN | apply IsS53.drew | apply IsS53.set_0 | apply IsS53.set_1 | apply IsS53.set_2 | refine IsS53.far ?_ NB0_104.1 _) | exact HI0.1), by apply_rules (transparency := .reducible) [HB.1, bwA, bwN, bwD, bwS, (IsS53.ge HI0.1), GE104.1], by repeat (first | (with_reducible first | exact HK.1 | apply KeepBut.set_ | apply kpN | apply kpD | apply kpA | refine keep_far ?_ GW104.1 _) | exact HK.1)⟩
    rw [if_neg c11] at H
    have c11b0 : decide (a1_1 ≤ 57) = false := decide_eq_false c11
    clear c11
    simp only [Option.some.injEq, Prod.mk.injEq] at H
    obtain ⟨rfl, rfl, rfl, rfl⟩ := H
    go_enter Try.func31, Try.ntmps31
    go_wp2_with (first | ((with_reducible refine gate_dst (N := 3) rfl ?_); refine box_event ?hg (N := 3) ?hd (cs := #[.int .i64 a1_0, .int .i32 a1_1, .bool false, .bool a1_3, .bool a1_4, .string a1_5]) (t := 25) ?hr ?_; (case hd => rfl); (case hg => rfl); (case hr => first | (go_simp; done) | (go_simp; rfl)); intro gb104 hg w21 hbox hb; replace HB := aM (bwP (by apply_rules (transparency := .reducible) [HB.1, bwA, bwN, bwD, bwS, (IsS53.ge HI0.1)]) hb); have BK104 := aM (hbox); have GW104 := aM ((by rw [hg]; exact (keep_size (w := w) (g := g) (row := none) (by apply_rules (transparency := .reducible) [HK.1, KeepBut.set_, kpN, kpD, kpA])) : w.heap.size ≤ gb104)); have GE104 := aM ((Nat.le_trans HW0.out (by rw [hg]; exact (keep_size (w := w) (g := g) (row := none) (by apply_rules (transparency := .reducible) [HK.1, KeepBut.set_, kpN, kpD, kpA])) : w.heap.size ≤ gb104) : w0.heap.size ≤ gb104)); replace HK := aM (KeepBut.trans (by apply_rules (transparency := .reducible) [HK.1, KeepBut.set_, kpN, kpD, kpA]) (KeepBut.of_below hb g none) (.inl rfl)); have NB0_104 := aM ((by rw [hg]; exact Nat.ne_of_lt (IsS53.lt (show IsS53 w0 _ g s0_0 s0_1 s0_2 from by apply_rules (transparency := .reducible) [HI0.1, IsS53.alloc, IsS53.drewN, IsS53.drew, IsS53.set_0, IsS53.set_1, IsS53.set_2])) : g ≠ gb104)); have NB104_0 := aM ((by rw [hg]; exact Nat.ne_of_gt (IsS53.lt (show IsS53 w0 _ g s0_0 s0_1 s0_2 from by apply_rules (transparency := .reducible) [HI0.1, IsS53.alloc, IsS53.drewN, IsS53.drew, IsS53.set_0, IsS53.set_1, IsS53.set_2])) : gb104 ≠ g)); replace HI0 := aM (IsS53.below (by apply_rules (transparency := .reducible) [HI0.1, IsS53.alloc, IsS53.drewN, IsS53.drew, IsS53.set_0, IsS53.set_1, IsS53.set_2]) hb); clear hb hbox hg; obtain ⟨HGz22, hgz22⟩ := HI0.1; have hcz22_0 := cellS53_0 HGz22; have hcz22_1 := cellS53_1 HGz22; have hcz22_2 := cellS53_2 HGz22; have hfz22_0 := bkF HGz22 0; have hfz22_1 := bkF HGz22 1; have hfz22_2 := bkF HGz22 2; clear HGz22 hgz22; have hnb23 := NB104_0.1; have hnc23 := NB0_104.1; obtain ⟨z24_0, z24_1, z24_2, z24_3, z24_4, z24_5, z24_6, z24_7, z24_8, z24_9, z24_10, z24_11⟩ := bx6 BK104.1))
    go_ret
    exact ⟨rfl, by repeat (first | (with_reducible first | exact HI0.1 | apply IsS53.alloc | apply IsS53.drewN | apply IsS53.drew | apply IsS53.set_0 | apply IsS53.set_1 | apply IsS53.set_2 | refine IsS53.far ?_ NB0_104.1 _) | exact HI0.1), by apply_rules (transparency := .reducible) [HB.1, bwA, bwN, bwD, bwS, (IsS53.ge HI0.1), GE104.1], by repeat (first | (with_reducible first | exact HK.1 | apply KeepBut.set_ | apply kpN | apply kpD | apply kpA | refine keep_far ?_ GW104.1 _) | exact HK.1)⟩
   rw [if_neg c10] at H
   have c10b0 : decide (48 ≤ a1_1) = false := decide_eq_false c10
   clear c10
   simp only [Option.some.injEq, Prod.mk.injEq] at H
   obtain ⟨rfl, rfl, rfl, rfl⟩ := H
   go_enter Try.func31, Try.ntmps31
   go_wp2_with (first | ((with_reducible refine gate_dst (N := 3) rfl ?_); refine box_event ?hg (N := 3) ?hd (cs := #[.int .i64 a1_0, .int .i32 a1_1, .bool false, .bool a1_3, .bool a1_4, .string a1_5]) (t := 25) ?hr ?_; (case hd => rfl); (case hg => rfl); (case hr => first | (go_simp; done) | (go_simp; rfl)); intro gb104 hg w25 hbox hb; replace HB := aM (bwP (by apply_rules (transparency := .reducible) [HB.1, bwA, bwN, bwD, bwS, (IsS53.ge HI0.1)]) hb); have BK104 := aM (hbox); have GW104 := aM ((by rw [hg]; exact (keep_size (w := w) (g := g) (row := none) (by apply_rules (transparency := .reducible) [HK.1, KeepBut.set_, kpN, kpD, kpA])) : w.heap.size ≤ gb104)); have GE104 := aM ((Nat.le_trans HW0.out (by rw [hg]; exact (keep_size (w := w) (g := g) (row := none) (by apply_rules (transparency := .reducible) [HK.1, KeepBut.set_, kpN, kpD, kpA])) : w.heap.size ≤ gb104) : w0.heap.size ≤ gb104)); replace HK := aM (KeepBut.trans (by apply_rules (transparency := .reducible) [HK.1, KeepBut.set_, kpN, kpD, kpA]) (KeepBut.of_below hb g none) (.inl rfl)); have NB0_104 := aM ((by rw [hg]; exact Nat.ne_of_lt (IsS53.lt (show IsS53 w0 _ g s0_0 s0_1 s0_2 from by apply_rules (transparency := .reducible) [HI0.1, IsS53.alloc, IsS53.drewN, IsS53.drew, IsS53.set_0, IsS53.set_1, IsS53.set_2])) : g ≠ gb104)); have NB104_0 := aM ((by rw [hg]; exact Nat.ne_of_gt (IsS53.lt (show IsS53 w0 _ g s0_0 s0_1 s0_2 from by apply_rules (transparency := .reducible) [HI0.1, IsS53.alloc, IsS53.drewN, IsS53.drew, IsS53.set_0, IsS53.set_1, IsS53.set_2])) : gb104 ≠ g)); replace HI0 := aM (IsS53.below (by apply_rules (transparency := .reducible) [HI0.1, IsS53.alloc, IsS53.drewN, IsS53.drew, IsS53.set_0, IsS53.set_1, IsS53.set_2]) hb); clear hb hbox hg; obtain ⟨HGz26, hgz26⟩ := HI0.1; have hcz26_0 := cellS53_0 HGz26; have hcz26_1 := cellS53_1 HGz26; have hcz26_2 := cellS53_2 HGz26; have hfz26_0 := bkF HGz26 0; have hfz26_1 := bkF HGz26 1; have hfz26_2 := bkF HGz26 2; clear HGz26 hgz26; have hnb27 := NB104_0.1; have hnc27 := NB0_104.1; obtain ⟨z28_0, z28_1, z28_2, z28_3, z28_4, z28_5, z28_6, z28_7, z28_8, z28_9, z28_10, z28_11⟩ := bx6 BK104.1))
   go_ret
   exact ⟨rfl, by repeat (first | (with_reducible first | exact HI0.1 | apply IsS53.alloc | apply IsS53.drewN | apply IsS53.drew | apply IsS53.set_0 | apply IsS53.set_1 | apply IsS53.set_2 | refine IsS53.far ?_ NB0_104.1 _) | exact HI0.1), by apply_rules (transparency := .reducible) [HB.1, bwA, bwN, bwD, bwS, (IsS53.ge HI0.1), GE104.1], by repeat (first | (with_reducible first | exact HK.1 | apply KeepBut.set_ | apply kpN | apply kpD | apply kpA | refine keep_far ?_ GW104.1 _) | exact HK.1)⟩
  rw [if_neg c4] at H
  have c4b0 : (a1_0 == 1) = false := beq_eq_false_iff_ne.mpr c4
  have c4b1 : (a1_0 != 1) = true := bne_iff_ne.mpr c4
  simp only [Option.some.injEq, Prod.mk.injEq] at H
  obtain ⟨rfl, rfl, rfl, rfl⟩ := H
  go_enter Try.func31, Try.ntmps31
  go_wp2_with (first | ((with_reducible refine gate_dst (N := 3) rfl ?_); refine box_event ?hg (N := 3) ?hd (cs := #[.int .i64 a1_0, .int .i32 a1_1, .bool a1_2, .bool a1_3, .bool a1_4, .string a1_5]) (t := 25) ?hr ?_; (case hd => rfl); (case hg => rfl); (case hr => first | (go_simp; done) | (go_simp; rfl)); intro gb104 hg w29 hbox hb; replace HB := aM (bwP (by apply_rules (transparency := .reducible) [HB.1, bwA, bwN, bwD, bwS, (IsS53.ge HI0.1)]) hb); have BK104 := aM (hbox); have GW104 := aM ((by rw [hg]; exact (keep_size (w := w) (g := g) (row := none) (by apply_rules (transparency := .reducible) [HK.1, KeepBut.set_, kpN, kpD, kpA])) : w.heap.size ≤ gb104)); have GE104 := aM ((Nat.le_trans HW0.out (by rw [hg]; exact (keep_size (w := w) (g := g) (row := none) (by apply_rules (transparency := .reducible) [HK.1, KeepBut.set_, kpN, kpD, kpA])) : w.heap.size ≤ gb104) : w0.heap.size ≤ gb104)); replace HK := aM (KeepBut.trans (by apply_rules (transparency := .reducible) [HK.1, KeepBut.set_, kpN, kpD, kpA]) (KeepBut.of_below hb g none) (.inl rfl)); have NB0_104 := aM ((by rw [hg]; exact Nat.ne_of_lt (IsS53.lt (show IsS53 w0 _ g s0_0 s0_1 s0_2 from by apply_rules (transparency := .reducible) [HI0.1, IsS53.alloc, IsS53.drewN, IsS53.drew, IsS53.set_0, IsS53.set_1, IsS53.set_2])) : g ≠ gb104)); have NB104_0 := aM ((by rw [hg]; exact Nat.ne_of_gt (IsS53.lt (show IsS53 w0 _ g s0_0 s0_1 s0_2 from by apply_rules (transparency := .reducible) [HI0.1, IsS53.alloc, IsS53.drewN, IsS53.drew, IsS53.set_0, IsS53.set_1, IsS53.set_2])) : gb104 ≠ g)); replace HI0 := aM (IsS53.below (by apply_rules (transparency := .reducible) [HI0.1, IsS53.alloc, IsS53.drewN, IsS53.drew, IsS53.set_0, IsS53.set_1, IsS53.set_2]) hb); clear hb hbox hg; obtain ⟨HGz30, hgz30⟩ := HI0.1; have hcz30_0 := cellS53_0 HGz30; have hcz30_1 := cellS53_1 HGz30; have hcz30_2 := cellS53_2 HGz30; have hfz30_0 := bkF HGz30 0; have hfz30_1 := bkF HGz30 1; have hfz30_2 := bkF HGz30 2; clear HGz30 hgz30; have hnb31 := NB104_0.1; have hnc31 := NB0_104.1; obtain ⟨z32_0, z32_1, z32_2, z32_3, z32_4, z32_5, z32_6, z32_7, z32_8, z32_9, z32_10, z32_11⟩ := bx6 BK104.1))
  go_ret
  exact ⟨rfl, by repeat (first | (with_reducible first | exact HI0.1 | apply IsS53.alloc | apply IsS53.drewN | apply IsS53.drew | apply IsS53.set_0 | apply IsS53.set_1 | apply IsS53.set_2 | refine IsS53.far ?_ NB0_104.1 _) | exact HI0.1), by apply_rules (transparency := .reducible) [HB.1, bwA, bwN, bwD, bwS, (IsS53.ge HI0.1), GE104.1], by repeat (first | (with_reducible first | exact HK.1 | apply KeepBut.set_ | apply kpN | apply kpD | apply kpA | refine keep_far ?_ GW104.1 _) | exact HK.1)⟩
 rw [if_neg c3] at H
 have c3b0 : (s0_0 == 0) = false := beq_eq_false_iff_ne.mpr c3
 have c3b1 : (s0_0 != 0) = true := bne_iff_ne.mpr c3
 simp only [Option.some.injEq, Prod.mk.injEq] at H
 obtain ⟨rfl, rfl, rfl, rfl⟩ := H
 go_enter Try.func31, Try.ntmps31
 go_wp2_with (first | ((with_reducible refine gate_dst (N := 3) rfl ?_); refine box_event ?hg (N := 3) ?hd (cs := #[.int .i64 a1_0, .int .i32 a1_1, .bool a1_2, .bool a1_3, .bool a1_4, .string a1_5]) (t := 25) ?hr ?_; (case hd => rfl); (case hg => rfl); (case hr => first | (go_simp; done) | (go_simp; rfl)); intro gb104 hg w33 hbox hb; replace HB := aM (bwP (by apply_rules (transparency := .reducible) [HB.1, bwA, bwN, bwD, bwS, (IsS53.ge HI0.1)]) hb); have BK104 := aM (hbox); have GW104 := aM ((by rw [hg]; exact (keep_size (w := w) (g := g) (row := none) (by apply_rules (transparency := .reducible) [HK.1, KeepBut.set_, kpN, kpD, kpA])) : w.heap.size ≤ gb104)); have GE104 := aM ((Nat.le_trans HW0.out (by rw [hg]; exact (keep_size (w := w) (g := g) (row := none) (by apply_rules (transparency := .reducible) [HK.1, KeepBut.set_, kpN, kpD, kpA])) : w.heap.size ≤ gb104) : w0.heap.size ≤ gb104)); replace HK := aM (KeepBut.trans (by apply_rules (transparency := .reducible) [HK.1, KeepBut.set_, kpN, kpD, kpA]) (KeepBut.of_below hb g none) (.inl rfl)); have NB0_104 := aM ((by rw [hg]; exact Nat.ne_of_lt (IsS53.lt (show IsS53 w0 _ g s0_0 s0_1 s0_2 from by apply_rules (transparency := .reducible) [HI0.1, IsS53.alloc, IsS53.drewN, IsS53.drew, IsS53.set_0, IsS53.set_1, IsS53.set_2])) : g ≠ gb104)); have NB104_0 := aM ((by rw [hg]; exact Nat.ne_of_gt (IsS53.lt (show IsS53 w0 _ g s0_0 s0_1 s0_2 from by apply_rules (transparency := .reducible) [HI0.1, IsS53.alloc, IsS53.drewN, IsS53.drew, IsS53.set_0, IsS53.set_1, IsS53.set_2])) : gb104 ≠ g)); replace HI0 := aM (IsS53.below (by apply_rules (transparency := .reducible) [HI0.1, IsS53.alloc, IsS53.drewN, IsS53.drew, IsS53.set_0, IsS53.set_1, IsS53.set_2]) hb); clear hb hbox hg; obtain ⟨HGz34, hgz34⟩ := HI0.1; have hcz34_0 := cellS53_0 HGz34; have hcz34_1 := cellS53_1 HGz34; have hcz34_2 := cellS53_2 HGz34; have hfz34_0 := bkF HGz34 0; have hfz34_1 := bkF HGz34 1; have hfz34_2 := bkF HGz34 2; clear HGz34 hgz34))
 go_ret
 exact ⟨rfl, by repeat (first | (with_reducible first | exact HI0.1 | apply IsS53.alloc | apply IsS53.drewN | apply IsS53.drew | apply IsS53.set_0 | apply IsS53.set_1 | apply IsS53.set_2 | refine IsS53.far ?_ NB0_104.1 _) | exact HI0.1), by apply_rules (transparency := .reducible) [HB.1, bwA, bwN, bwD, bwS, (IsS53.ge HI0.1), GE104.1], by repeat (first | (with_reducible first | exact HK.1 | apply KeepBut.set_ | apply kpN | apply kpD | apply kpA | refine keep_far ?_ GW104.1 _) | exact HK.1)⟩

end Go.Proofs.Ytgkaiagoogjibaa.PBind
