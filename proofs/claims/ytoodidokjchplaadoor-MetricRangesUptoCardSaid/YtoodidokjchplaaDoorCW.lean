/- cluster.Walk and what ranges over it: walked. -/
import Derived.Test.YtoodidokjchplaaDoorMeZ
import Derived.RangeFuncNested
import Derived.RangeFuncBound
import Derived.RangeFuncCalls
import Derived.RangeFuncLeaves
import Derived.RangeFuncBox
import Derived.Shelf.Abstract
import Derived.Shelf.RegionOpen
import Derived.WalkKit
import Derived.OwnWalkIn
import Derived.TacticsInMore
import Derived.LoopNIn
import Derived.LoopIn
namespace Go.Proofs.YtoodidokjchplaaDoor.Un
open Go Go.RowKit Go.Shelf
open Go.Proofs.YtoodidokjchplaaDoor.Wk (bcell bel_drew bel_drewN bel_alloc bel_set bel_call size_len blk_cell blk_below blk_lt)
set_option linter.unusedVariables false
set_option linter.unusedSimpArgs false
attribute [local go_sem] Oper.semAt_some
abbrev ClIn (l : List UInt8) := {u : C4 // u ∈ clL l}
def cE {l : List UInt8} (x : ClIn l) : Array Value := #[.agg #[.int .i64 (x.1.1 : Nat), .int .i64 (x.1.2.1 : Nat), .int .i64 x.1.2.2.1, .int .i64 x.1.2.2.2]]
/-- What a round leaves: what lay ahead, the captured text. -/
structure KC (n₀ Bn : Nat) (W W' : World) : Prop where
  bel : Below n₀ W W'
  bn : Bn < W.heap.size → W'.heap[Bn]? = W.heap[Bn]?
theorem KC.refl (n₀ Bn : Nat) (W : World) : KC n₀ Bn W W := ⟨Below.refl _ _, fun _ => rfl⟩
theorem KC.trans {n₀ Bn : Nat} {A B C : World} (h : KC n₀ Bn A B) (k : KC n₀ Bn B C) : KC n₀ Bn A C :=
  ⟨h.bel.trans k.bel, fun hb => (k.bn (Nat.lt_of_lt_of_le hb h.bel.size)).trans (h.bn hb)⟩
theorem KC.putObj {n₀ Bn : Nat} {w : World} (hn : n₀ ≤ w.heap.size) (hB : Bn < w.heap.size) (W : World) (l : Nat) (o o' : Obj) (hl : w.heap.size ≤ l) (h : W.heap[l]? = some o) (hc : o.isCells = false) (hw : o.isWalk = false) : KC n₀ Bn W (W.putObj l o') :=
  ⟨belowK_b hn W l o o' hl h hc hw, fun _ => World.putObj_heap_other (fun e => by omega)⟩
theorem KC.alloc {n₀ Bn : Nat} {W : World} (hn : n₀ ≤ W.heap.size) (o : Obj) : KC n₀ Bn W (W.alloc o) :=
  ⟨(Below.refl _ _).alloc hn o, fun h => Below.heap_alloc W o _ h⟩
theorem KC.below {n₀ Bn : Nat} {W W' : World} (hn : n₀ ≤ W.heap.size) (h : Below W.heap.size W W') : KC n₀ Bn W W' :=
  ⟨h.mono hn, fun hb => h.block _ hb⟩
theorem gb_none {w w' : World} (hb : Below w.heap.size w w') : w.grownBy w' none := ⟨hb.os, hb.tape, hb.output, hb.size, fun i hi _ => hb.block i hi⟩
theorem abides {β : Type} {B : Nat} {J : β → World → Prop} (h : AbidesFrom B J) {s : β} {X Y : World} (hs : J s X) (hb : Below X.heap.size X Y) : J s Y := h s X Y none hs (gb_none hb) (fun r e => by cases e)
theorem cwalk_calls (s : ByteArray) (w : World) : Calls Tryd.prog 50 #[.string s] w fun e w' => e = .returned (.func (.func 68) #[] #[.pointer (some ⟨w.heap.size, 0, none⟩)]) ∧ w' = w.alloc (.cells #[.string s] 9) := by
  go_enter Tryd.func50, Tryd.ntmps50
  go_wp2
  go_ret
  exact ⟨rfl, rfl⟩
theorem clL_step {l : List UInt8} {o : Nat} {pre : List C4} (h : clL l = pre ++ clFrom l o) (ho : o < l.length) (hs : Stt l o) :
    clL l = (pre ++ [clAt l o]) ++ clFrom l (clTo l o) ∧ clAt l o ∈ clL l ∧ pre.length < (clL l).length := by
  have e := h
  rw [clFrom_cons ho hs] at e
  refine ⟨by rw [e]; simp, by rw [e]; simp, by rw [e]; simp⟩
theorem clL_stop {l : List UInt8} {o : Nat} {pre : List C4} (h : clL l = pre ++ clFrom l o) (ho : l.length ≤ o) : clL l = pre := by
  rw [clFrom_nil ho] at h
  simpa using h
set_option maxRecDepth 100000 in
set_option maxHeartbeats 4000000 in
/-- What cluster.Walk hands back: the clusters of the text in turn, as long as the rounds go on. -/
theorem cwalk_stops (s : ByteArray) (hs : s.size ≤ 1000000000) (n : Nat) (hn : 1 ≤ n) (Bn n₀ : Nat) (w0 w : World) (hn₀ : w0.heap.size = n₀) (hT : Tb w0) (h0 : Below n₀ w0 w) (hBn : w.heap[Bn]? = some (.cells #[.string s] 9 (0, 0))) :
    SeqStopsK Fence.wide n Tryd.prog 68 #[.pointer (some ⟨Bn, 0, none⟩)] (fun x : ClIn s.data.toList => cE x) (KC n₀ Bn) (fun ys => ys.map (·.1) = clL s.data.toList) (fun pre => pre.map (·.1) <+: clL s.data.toList) (clL s.data.toList).length w := by
  subst hn₀
  intro l J Jx W hW hJ hJx hY hJ0
  have HT := Lib.hid hT
  have hB0 : Hid (Below w0.heap.size w0 W) := h0.trans (hW.mono h0.size)
  have hBW : W.heap[Bn]? = some (.cells #[.string s] 9 (0, 0)) := (hW.block Bn (blk_lt hBn)).trans hBn
  clear hT h0 hBn hJx
  refine callsIn_of_wp Tryd.func68 rfl trivial ?_ rfl
  simp only [Tryd.ntmps68, List.size_toArray, List.length_cons, List.length_nil, Nat.reduceAdd, Nat.reduceSub, Array.replicate_succ, Array.replicate_zero, List.push_toArray, List.append_toArray, List.nil_append, List.cons_append]
  gi_wp2
  gi_loopw [3] (fun v2 wr => ∃ (pre : List (ClIn s.data.toList)) (o : Nat), v2 = .int .i64 o ∧ o ≤ s.size ∧ Hid (Stt s.data.toList o ∧ clL s.data.toList = pre.map (·.1) ++ clFrom s.data.toList o) ∧ J pre wr ∧ Hid (wr.heap[Bn]? = some (.cells #[.string s] 9 (0, 0))) ∧ Hid (Below w0.heap.size w0 wr) ∧ W.heap.size ≤ wr.heap.size)
    (fun v2 _ => s.size - (intOf v2).toNat)
  case atStart => exact ⟨[], 0, rfl, Nat.zero_le _, ⟨stt0 _, rfl⟩, hJ0, hBW, hB0.out, Nat.le_refl _⟩
  case round =>
    obtain ⟨pre, o, rfl, ho, hpre, hJs, hBb, hBel, hsz⟩ := hrel
    have hc := blk_cell hBb.out 0
    simp only [List.getElem?_toArray, List.getElem?_cons_zero] at hc
    by_cases hlt : o < s.size
    · obtain ⟨e1, e2, e3⟩ := clL_step hpre.out.2 (by rw [size_len]; exact hlt) hpre.out.1
      obtain ⟨c1, c2, c3, -⟩ := clTo_at (l := s.data.toList) (o := o) (by rw [size_len]; exact hlt) hpre.out.1
      rw [size_len] at c2
      rw [List.length_map] at e3
      have NX := fun T (h : clTo s.data.toList o = T) W hW => next_cl s o T hlt hs hpre.out.1 h W hW
      have MD := fun T W hW => made_calls s o T hlt hs hpre.out.1 W hW
      obtain ⟨T, hTo⟩ : ∃ T, clTo s.data.toList o = T := ⟨_, rfl⟩
      obtain ⟨kk, hkk⟩ : ∃ kk, (if crlf s.data.toList o = true then (1 : Int) else clsOf (chAt s.data.toList o)) = kk := ⟨_, rfl⟩
      obtain ⟨xx, hxx⟩ : ∃ xx, (if crlf s.data.toList o = true then (0 : Int) else celOf (chAt s.data.toList o)) = xx := ⟨_, rfl⟩
      have hat : clAt s.data.toList o = (o, T, kk, xx) := by unfold clAt; rw [hTo, hkk, hxx]
      rw [hkk, hxx] at MD
      rw [hat] at e1 e2
      rw [hTo] at e1 c1 c2 c3
      replace NX := Lib.hid (NX T hTo)
      replace MD := Lib.hid (MD T)
      have E1 := Lib.hid e1
      have HE2 := Lib.hid e2
      have HS3 := Lib.hid c3
      have hoi : (o : Int) < s.size := by omega
      clear e1 e2 hTo hkk hxx hat c3
      gi_wp2_with (first
        | (refine ⟨trivial, ?_⟩; gi_at_call 69; refine (callsIn_wide.2 (NX.out _ (HT.out.below hBel.out))).mono ?_; rintro e w1 ⟨rfl, hb1⟩; have hc1 := (hb1.cell (World.block_lt_of_cell? _ _ hc)).trans hc)
        | (refine ⟨trivial, ?_⟩; gi_at_call 70; refine (callsIn_wide.2 (MD.out _ (HT.out.below (bel_call hBel.out hb1)))).mono ?_; rintro e w2 ⟨rfl, hb2⟩; have hb := bel_call hb1 hb2; have hJ2 := abides hJ hJs hb; obtain ⟨fn, tmps, assign, body, hy, hR⟩ := hY pre ⟨(o, T, kk, xx), HE2.out⟩ _ hJ2 e3; dsimp only [cE] at hy))
      refine hR.mono ?_
      rintro e W3 (⟨rfl, hJ3, hk3⟩ | ⟨rfl, hJx3⟩)
      · have hbn3 : Hid (W3.heap[Bn]? = some (.cells #[.string s] 9 (0, 0))) := by
          have h1 := blk_below hBb.out hb
          exact (hk3.bn (blk_lt h1)).trans h1
        have hbl3 : Hid (Below w0.heap.size w0 W3) := (bel_call hBel.out hb).trans hk3.bel
        have hsz3 : W.heap.size ≤ W3.heap.size := by
          have h1 := hb.size
          have h2 := hk3.bel.size
          omega
        clear hy hR
        gi_wp2
        go_roundw
        case rel => exact ⟨pre ++ [⟨(o, T, kk, xx), HE2.out⟩], T, rfl, c2, ⟨HS3.out, by rw [List.map_append]; exact E1.out⟩, hJ3, hbn3.out, hbl3.out, hsz3⟩
        case measure => simp [intOf]; omega
      · gi_wp2
        refine bodyPost_ret (results_none rfl _ _ _) rfl ?_
        refine ⟨⟨_, rfl⟩, .inr ⟨pre ++ [⟨(o, T, kk, xx), HE2.out⟩], ?_, hJx3⟩⟩
        rw [List.map_append]
        exact ⟨_, E1.out.symm⟩
    · gi_wp2
      go_end0
      exact ⟨⟨_, rfl⟩, .inl ⟨pre, (clL_stop hpre.out.2 (by rw [size_len]; omega)).symm, hJs⟩⟩
end Go.Proofs.YtoodidokjchplaaDoor.Un
