/- unit.Walk and unit.Units: walked (the iterator keeps its unit in a box of its own between two rounds: KU says what a round must leave). -/
import Derived.Test.YtjjilhfebkeoeaaDoorKyA
import Derived.Test.YtjjilhfebkeoeaaDoorKzN
import Derived.RangeFuncNested
import Derived.RangeFuncBound
import Derived.RangeFuncCalls
import Derived.RangeFuncLeaves
import Derived.RangeFuncBox
import Derived.Shelf.Abstract
import Derived.Shelf.RegionOpen
import Derived.WalkKit
import Derived.OwnWalkIn
import Derived.TacticsInMore
import Derived.LoopNIn
import Derived.LoopIn
import Derived.ArgAppend
import Derived.Maps.AppendAt
namespace Go.Proofs.YtjjilhfebkeoeaaDoor.Un
open Go Go.RowKit Go.Shelf Go.Proofs.YtjjilhfebkeoeaaDoor.Ky
open Go.Proofs.YtjjilhfebkeoeaaDoor.Wk (bcell bel_drew bel_drewN bel_alloc bel_set bel_call size_len blk_cell blk_below blk_lt)
set_option linter.unusedVariables false
set_option linter.unusedSimpArgs false
attribute [local go_sem] Oper.semAt_some
/-! The append, told in its two arms. -/
theorem run_append_two {P : Program} {w : World} (base : Nat) (t ty e : TypeId) (i : TypeInfo) (z : Value) (size bytes : Nat) (ht : P.underlying t = some (.slice e)) (hi : P.info? e = some i) (hz : i.zero = some z)
    (hsize : i.size = size) (hby : i.bytes = bytes) (hzs : z.cells.size = size) (hsz : 0 < size) (v : Value) (n : Nat) (xs : List Value) (hown : w.ownsRow base e size v n xs) (hnil : n = 0 → v = .slice none 0 0)
    (a : Addr) (m c : Nat) (news : List Value) (hl : news.length = m * size) (hnews : ∀ j u, news[j]? = some u → w.cell? (a.add j) = some u) (h1 : ∀ u ∈ news, u.oneCell' = true)
    (h63 : n + m ≤ maxLen) (hbytes : (n + m) * bytes ≤ 140737488355328) (hbase : base ≤ w.heap.size) :
    ∃ v' w', (Builtin.append_ #[t, t] ty #[v, .slice (some a) m c]).run P w = .ok v' w' ∧ w'.ownsRow base e size v' (n + m) (xs ++ news) ∧ w.grownBy w' v.ownBlock ∧
      (w.grownBy w' none ∨ ∃ g cap cur, v = .slice (some ⟨g, 0, none⟩) n cap ∧ n + m ≤ cap ∧ 0 < n ∧ w.heap[g]? = some (.cells cur e (0, 0)) ∧ cur.size = cap * size) := by
  obtain ⟨v', w', hr, r1, r2, r3⟩ := run_append_own (P := P) (w := w) base t ty e i z size bytes ht hi hz hsize hby hzs hsz v n xs hown a m c news hl hnews h1 h63 hbytes hbase
  refine ⟨v', w', hr, r1, r2, ?_⟩
  have hcl := fun g (h : v.ownBlock = some g) => hown.cells h
  rcases hown.2 with ⟨rfl, h0⟩ | ⟨g, cap, cur, rfl, hb, hg, hn, hm, hsz', htk⟩
  · exact .inl r2
  · by_cases hr' : n + m ≤ cap
    · refine .inr ⟨g, cap, cur, rfl, hr', ?_, hg, hsz'⟩
      rcases Nat.eq_zero_or_pos n with h | h
      · have := hnil h; cases this
      · exact h
    · left
      obtain ⟨v2, w2, hr2, s1, s2⟩ := run_append_arg_grows (P := P) (w := w) t ty e i z size bytes ht hi hz hsize hby hzs hsz ⟨g, 0, none⟩ n cap xs hown.1 (fun j u hj => hcl g rfl j u hj) a m c news hl hnews (by omega) h63 hbytes
      rw [hr] at hr2
      cases hr2
      exact s2
theorem wpListIn_append_two {F : Fence} {n : Nat} {P : Program} (w : World) {ops : Array Oper} {rest : List Oper} {o : Oper} {a : Act} {Q : Exit → Act → World → Prop}
    (hg : o.guard = none) (s x : Operand) (t : TypeId) (hop : o.op = Op.call { callee := Callee.builtin Builtin.append, args := #[s, x], argTypes := #[t, t] })
    (base : Nat) (e : TypeId) (i : TypeInfo) (z : Value) (size bytes : Nat) (h1 : P.underlying t = some (.slice e)) (h2 : P.info? e = some i) (h3 : i.zero = some z) (h4 : i.size = size) (h5 : i.bytes = bytes) (h6 : z.cells.size = size) (h7 : 0 < size)
    (v : Value) (k : Nat) (xs : List Value) (hs : a.eval s = v) (hown : w.ownsRow base e size v k xs) (hnil : k = 0 → v = .slice none 0 0) (ad : Addr) (m c : Nat) (news : List Value) (hx : a.eval x = .slice (some ad) m c) (hn : news.length = m * size)
    (hc : ∀ j u, news[j]? = some u → w.cell? (ad.add j) = some u) (h1c : ∀ u ∈ news, u.oneCell' = true) (b1 : k + m ≤ maxLen) (b2 : (k + m) * bytes ≤ 140737488355328) (b3 : base ≤ w.heap.size)
    (hK : ∀ v' w', w'.ownsRow base e size v' (k + m) (xs ++ news) → w.grownBy w' v.ownBlock → (w.grownBy w' none ∨ ∃ g cap cur, v = .slice (some ⟨g, 0, none⟩) k cap ∧ k + m ≤ cap ∧ 0 < k ∧ w.heap[g]? = some (.cells cur e (0, 0)) ∧ cur.size = cap * size) → wpListIn F n P ops Q rest (a.put o.dst v') w') :
    wpListIn F n P ops Q (o :: rest) a w := by
  refine wpListIn_plain hg fun K hK' => ?_
  obtain ⟨v', w', hrun, r1, r2, r3⟩ := run_append_two (P := P) (w := w) base t o.type e i z size bytes h1 h2 h3 h4 h5 h6 h7 v k xs hown hnil ad m c news hn hc h1c b1 b2 b3
  unfold Oper.wpIn
  refine ⟨?_, ?_⟩
  · simp [Oper.about, hop, resolve, Target.leads, Sem.run_pure]
  · rw [Oper.semAt_plain F _ _ (by rw [hop]; intro c hc'; cases hc')]
    simp [execOp, hop, resolve, invoke, builtin, hs, hx, hrun, Result.andThen]
    exact hK' _ _ (hK v' w' r1 r2 r3)
/-! Units with their offsets. -/
/-- offset, character, size -/
abbrev U3 := Nat × Int × Nat
def offs2 : Nat → List (Int × Nat) → List U3
  | _, [] => []
  | o, (c, n) :: r => (o, c, n) :: offs2 (o + n) r
def usAt (l : List UInt8) : List U3 := offs2 0 (unitsOf l)
theorem offs2_map : ∀ (o : Nat) (L : List (Int × Nat)), (offs2 o L).map (·.2) = L
  | _, [] => rfl
  | o, (c, n) :: r => by simp only [offs2, List.map_cons]; rw [offs2_map]
theorem usAt_map (l : List UInt8) : (usAt l).map (·.2) = unitsOf l := offs2_map 0 _
theorem usAt_len (l : List UInt8) : (usAt l).length ≤ l.length := by
  have h := units_len l.length l (Nat.le_refl _)
  have := congrArg List.length (usAt_map l)
  rw [List.length_map] at this; omega
abbrev UnIn (l : List UInt8) := {u : U3 // u ∈ usAt l}
def uV (u : U3) : Value := .agg #[.int .i32 u.2.1, .int .i64 u.2.2]
def uE {l : List UInt8} (x : UnIn l) : Array Value := #[.int .i64 (x.1.1 : Nat), .agg #[.int .i32 x.1.2.1, .int .i64 (x.1.2.2 : Nat)]]
/-- What a round leaves: what lay ahead, the captured text, every unit that lies in a box. -/
structure KU (n₀ Bn : Nat) (W W' : World) : Prop where
  bel : Below n₀ W W'
  bn : Bn < W.heap.size → W'.heap[Bn]? = W.heap[Bn]?
  un : ∀ (i : Nat) (c n : Int), W.heap[i]? = some (.cells #[.int .i32 c, .int .i64 n] 27 (0, 0)) → W'.heap[i]? = W.heap[i]?
theorem KU.refl (n₀ Bn : Nat) (W : World) : KU n₀ Bn W W := ⟨Below.refl _ _, fun _ => rfl, fun _ _ _ _ => rfl⟩
theorem KU.trans {n₀ Bn : Nat} {A B C : World} (h : KU n₀ Bn A B) (k : KU n₀ Bn B C) : KU n₀ Bn A C :=
  ⟨h.bel.trans k.bel, fun hb => (k.bn (Nat.lt_of_lt_of_le hb h.bel.size)).trans (h.bn hb), fun i c n hi => (k.un i c n ((h.un i c n hi).trans hi)).trans (h.un i c n hi)⟩
theorem KU.putObj {n₀ Bn : Nat} {w : World} (hn : n₀ ≤ w.heap.size) (hB : Bn < w.heap.size) (W : World) (l : Nat) (o o' : Obj) (hl : w.heap.size ≤ l) (h : W.heap[l]? = some o) (hc : o.isCells = false) (hw : o.isWalk = false) : KU n₀ Bn W (W.putObj l o') :=
  ⟨belowK_b hn W l o o' hl h hc hw, fun _ => World.putObj_heap_other (fun e => by omega), fun i c n hi => World.putObj_heap_other (fun e => by
    subst e; rw [hi] at h; cases h; cases hc)⟩
theorem KU.alloc {n₀ Bn : Nat} {W : World} (hn : n₀ ≤ W.heap.size) (o : Obj) : KU n₀ Bn W (W.alloc o) :=
  ⟨(Below.refl _ _).alloc hn o, fun h => Below.heap_alloc W o _ h, fun i c n hi => Below.heap_alloc W o _ (blk_lt hi)⟩
theorem KU.below {n₀ Bn : Nat} {W W' : World} (hn : n₀ ≤ W.heap.size) (h : Below W.heap.size W W') : KU n₀ Bn W W' :=
  ⟨h.mono hn, fun hb => h.block _ hb, fun i c n hi => h.block _ (blk_lt hi)⟩
theorem gb_none {w w' : World} (hb : Below w.heap.size w w') : w.grownBy w' none := ⟨hb.os, hb.tape, hb.output, hb.size, fun i hi _ => hb.block i hi⟩
theorem abides {β : Type} {B : Nat} {J : β → World → Prop} (h : AbidesFrom B J) {s : β} {X Y : World} (hs : J s X) (hb : Below X.heap.size X Y) : J s Y := h s X Y none hs (gb_none hb) (fun r e => by cases e)
/-- unit.Walk: the text is boxed; the function value captures the box. -/
theorem walk_calls (s : ByteArray) (w : World) : Calls Tryd.prog 12 #[.string s] w fun e w' => e = .returned (.func (.func 30) #[] #[.pointer (some ⟨w.heap.size, 0, none⟩)]) ∧ w' = w.alloc (.cells #[.string s] 9) := by
  go_enter Tryd.func12, Tryd.ntmps12
  go_wp2
  go_ret
  exact ⟨rfl, rfl⟩
theorem usAt_step {l : List UInt8} {o : Nat} {pre : List U3} (h : usAt l = pre ++ offs2 o (unitsOf (l.drop o))) (ho : o < l.length) :
    usAt l = (pre ++ [(o, (fst (l.drop o)).1, (fst (l.drop o)).2)]) ++ offs2 (o + (fst (l.drop o)).2) (unitsOf (l.drop (o + (fst (l.drop o)).2))) ∧ (o, (fst (l.drop o)).1, (fst (l.drop o)).2) ∈ usAt l ∧ pre.length < (usAt l).length ∧ o + (fst (l.drop o)).2 ≤ l.length := by
  have hne : l.drop o ≠ [] := by
    intro e; have := congrArg List.length e; rw [List.length_drop, List.length_nil] at this; omega
  have hle := fst_le _ hne
  rw [List.length_drop] at hle
  have e : usAt l = pre ++ ((o, (fst (l.drop o)).1, (fst (l.drop o)).2) :: offs2 (o + (fst (l.drop o)).2) (unitsOf (l.drop (o + (fst (l.drop o)).2)))) := by
    rw [h, units_cons hne, List.drop_drop]; rfl
  refine ⟨by rw [e]; simp, by rw [e]; simp, by rw [e]; simp, by omega⟩
theorem usAt_stop {l : List UInt8} {o : Nat} {pre : List U3} (h : usAt l = pre ++ offs2 o (unitsOf (l.drop o))) (ho : l.length ≤ o) : usAt l = pre := by
  rw [List.drop_of_length_le ho, units_nil] at h
  simpa [offs2] using h
set_option maxRecDepth 100000 in
set_option maxHeartbeats 4000000 in
/-- What unit.Walk hands back: the units of the text in turn, as long as the rounds go on. -/
theorem walk_stops (s : ByteArray) (hs : s.size ≤ 1000000000) (n : Nat) (hn : 1 ≤ n) (Bn n₀ : Nat) (w0 w : World) (hn₀ : w0.heap.size = n₀) (hT : Tb w0) (h0 : Below n₀ w0 w) (hBn : w.heap[Bn]? = some (.cells #[.string s] 9 (0, 0))) :
    SeqStopsK Fence.wide n Tryd.prog 30 #[.pointer (some ⟨Bn, 0, none⟩)] (fun x : UnIn s.data.toList => uE x) (KU n₀ Bn) (fun ys => ys.map (·.1) = usAt s.data.toList) (fun pre => pre.map (·.1) <+: usAt s.data.toList) (usAt s.data.toList).length w := by
  subst hn₀
  intro l J Jx W hW hJ hJx hY hJ0
  have HT := Lib.hid hT
  have hB0 : Hid (Below w0.heap.size w0 W) := h0.trans (hW.mono h0.size)
  have hBW : W.heap[Bn]? = some (.cells #[.string s] 9 (0, 0)) := (hW.block Bn (blk_lt hBn)).trans hBn
  clear hT h0 hBn hJx
  refine callsIn_of_wp Tryd.func30 rfl trivial ?_ rfl
  simp only [Tryd.ntmps30, List.size_toArray, List.length_cons, List.length_nil, Nat.reduceAdd, Nat.reduceSub, Array.replicate_succ, Array.replicate_zero, List.push_toArray, List.append_toArray, List.nil_append, List.cons_append]
  gi_wp2
  gi_loopw [3] (fun v3 wr => ∃ (pre : List (UnIn s.data.toList)) (o : Nat), v3 = .int .i64 o ∧ o ≤ s.size ∧ Hid (usAt s.data.toList = pre.map (·.1) ++ offs2 o (unitsOf (s.data.toList.drop o))) ∧ J pre wr ∧ Hid (wr.heap[Bn]? = some (.cells #[.string s] 9 (0, 0))) ∧ Hid (Below w0.heap.size w0 wr) ∧ W.heap.size ≤ wr.heap.size)
    (fun v3 _ => s.size - (intOf v3).toNat)
  case atStart => exact ⟨[], 0, rfl, Nat.zero_le _, rfl, hJ0, hBW, hB0.out, Nat.le_refl _⟩
  case round =>
    obtain ⟨pre, o, rfl, ho, hpre, hJs, hBb, hBel, hsz⟩ := hrel
    have hc := blk_cell hBb.out 0
    simp only [List.getElem?_toArray, List.getElem?_cons_zero] at hc
    by_cases hlt : o < s.size
    · obtain ⟨e1, e2, e3, e4⟩ := usAt_step (l := s.data.toList) hpre.out (by rw [size_len]; exact hlt)
      rw [size_len] at e4
      obtain ⟨p, hp⟩ : ∃ p, fst (s.data.toList.drop o) = p := ⟨_, rfl⟩
      obtain ⟨c, k⟩ := p
      have hxs : (s.extract o s.size).data.toList = s.data.toList.drop o := Lib.extract_to_end s o
      have hpos : 0 < (s.extract o s.size).size := by rw [← size_len, hxs, List.length_drop, size_len]; omega
      have hun : unV (s.extract o s.size).data.toList = .agg #[.int .i32 c, .int .i64 (k : Nat)] := by unfold unV; rw [hxs, hp]
      have hk1 := fst_pos (s.data.toList.drop o)
      rw [hp] at e1 e2 e4 hk1
      have E1 := Lib.hid e1
      have HU := Lib.hid hun
      have HE2 := Lib.hid e2
      rw [List.length_map] at e3
      simp only at e4 hk1
      have hoi : (o : Int) < s.size := by omega
      have hoi2 : (o : Int) ≤ s.size := by omega
      have ho0 : (0 : Int) ≤ o := by omega
      clear e1 e2 hp hxs hun
      gi_wp2_with (refine ⟨trivial, ?_⟩; gi_at_call 31; refine (callsIn_wide.2 (first_calls (s.extract o s.size) hpos _ (HT.out.below hBel.out))).mono ?_; rintro e w1 ⟨rfl, hb⟩; rw [HU.out]; have hJ2 := abides hJ hJs (bel_alloc hb (.cells #[.int .i32 c, .int .i64 (k : Nat)] 27)); obtain ⟨fn, tmps, assign, body, hy, hR⟩ := hY pre ⟨(o, c, k), HE2.out⟩ _ hJ2 e3; dsimp only [uE] at hy)
      refine hR.mono ?_
      rintro e W3 (⟨rfl, hJ3, hk3⟩ | ⟨rfl, hJx3⟩)
      · have hu : W3.heap[w1.heap.size]? = some (.cells #[.int .i32 c, .int .i64 (k : Nat)] 27 (0, 0)) := (hk3.un _ _ _ (heap_alloc_new w1 _)).trans (heap_alloc_new w1 _)
        have hu1 := blk_cell hu 1
        simp only [List.getElem?_toArray, List.getElem?_cons_succ, List.getElem?_cons_zero] at hu1
        have hbn3 : Hid (W3.heap[Bn]? = some (.cells #[.string s] 9 (0, 0))) := by
          have h1 := blk_below hBb.out (bel_alloc hb (.cells #[.int .i32 c, .int .i64 (k : Nat)] 27))
          exact (hk3.bn (blk_lt h1)).trans h1
        have hbl3 : Hid (Below w0.heap.size w0 W3) := (bel_call hBel.out (bel_alloc hb (.cells #[.int .i32 c, .int .i64 (k : Nat)] 27))).trans hk3.bel
        have hsz3 : W.heap.size ≤ W3.heap.size := by
          have h1 := hb.size
          have h2 := hk3.bel.size
          rw [Wk.size_alloc] at h2; omega
        clear hu hy hR
        gi_wp2
        go_roundw
        case rel => exact ⟨pre ++ [⟨(o, c, k), HE2.out⟩], o + k, by go_num, by omega, by show _ = _; rw [List.map_append]; exact E1.out, hJ3, hbn3.out, hbl3.out, hsz3⟩
        case measure => simp [intOf]; omega
      · gi_wp2
        refine bodyPost_ret (results_none rfl _ _ _) rfl ?_
        refine ⟨⟨_, rfl⟩, .inr ⟨pre ++ [⟨(o, c, k), HE2.out⟩], ?_, hJx3⟩⟩
        rw [List.map_append]
        exact ⟨_, E1.out.symm⟩
    · gi_wp2
      go_end0
      exact ⟨⟨_, rfl⟩, .inl ⟨pre, (usAt_stop hpre.out (by rw [size_len]; omega)).symm, hJs⟩⟩
/-! Units. -/
theorem KU.appended {n₀ Bn B tO : Nat} {W w1 : World} {tmp : Obj} {v v' u : Value} {k : Nat} (hn : Below n₀ W (w1.setCell ⟨B, 0, none⟩ v')) (hv : Boxed W B tO v) (hte : tO ≠ 27) (hs : Boxed W Bn 9 u) (hB : B ≠ Bn)
    (h2 : (W.alloc tmp).grownBy w1 none ∨ ∃ g cap cur, v = .slice (some ⟨g, 0, none⟩) k cap ∧ k + 1 ≤ cap ∧ 0 < k ∧ (W.alloc tmp).heap[g]? = some (.cells cur 27 (0, 0)) ∧ cur.size = cap * 2) (hg : (W.alloc tmp).grownBy w1 v.ownBlock) :
    KU n₀ Bn W (w1.setCell ⟨B, 0, none⟩ v') := by
  have key : ∀ i, i < W.heap.size → i ≠ B → (∀ g cap cur, v = .slice (some ⟨g, 0, none⟩) k cap → k + 1 ≤ cap → 0 < k → (W.alloc tmp).heap[g]? = some (.cells cur 27 (0, 0)) → cur.size = cap * 2 → i ≠ g) → (w1.setCell ⟨B, 0, none⟩ v').heap[i]? = W.heap[i]? := by
    intro i hi hne hng
    rw [Below.heap_setCell w1 ⟨B, 0, none⟩ v' i hne]
    have h3 : (W.alloc tmp).heap[i]? = W.heap[i]? := Below.heap_alloc W tmp i hi
    have hi2 : i < (W.alloc tmp).heap.size := by rw [World.size_alloc]; omega
    rcases h2 with h2 | ⟨g, cap, cur, rfl, c1, c2, c3, c4⟩
    · rw [← h3]; exact h2.block i hi2 (fun e => by cases e)
    · rw [← h3]; exact hg.block i hi2 (fun e => by cases e; exact hng _ cap cur rfl c1 c2 c3 c4 rfl)
  refine ⟨hn, fun hb => key Bn hb (fun e => hB e.symm) (fun g cap cur _ _ _ c3 _ e => ?_), fun i c n hi => key i (blk_lt hi) (fun e => ?_) (fun g cap cur _ c1 c2 c3 c4 e => ?_)⟩
  · subst e
    rw [Below.heap_alloc W tmp Bn hb] at c3
    have := (show W.heap[Bn]? = _ from hs).symm.trans c3
    simp at this
  · subst e
    have := (show W.heap[i]? = _ from hv).symm.trans hi
    simp at this
  · subst e
    rw [Below.heap_alloc W tmp i (blk_lt hi), hi] at c3
    simp at c3
    subst c3
    simp at c4
    omega
def uc (L : List (Int × Nat)) : List Value := L.flatMap fun u => [.int .i32 u.1, .int .i64 (u.2 : Nat)]
theorem uc_len (L : List (Int × Nat)) : (uc L).length = L.length * 2 := by
  induction L with
  | nil => rfl
  | cons k r ih => simp only [uc, List.flatMap_cons, List.length_append, List.length_cons] at *; rw [ih]; simp; omega
theorem uc_snoc (L : List (Int × Nat)) (u : Int × Nat) : uc (L ++ [u]) = uc L ++ [.int .i32 u.1, .int .i64 (u.2 : Nat)] := by simp [uc]
theorem infoU : (Tryd.prog.info? 27).map (fun i => (i.zero, i.size, i.bytes)) = some (some (.agg #[.int .i32 0, .int .i64 0]), 2, 16) := by kernel_rfl
set_option maxRecDepth 100000 in
set_option maxHeartbeats 4000000 in
theorem units_calls (s : ByteArray) (hs : s.size ≤ 1000000000) (w : World) (hT : Tb w) :
    Calls Tryd.prog 15 #[.string s] w fun e w' => ∃ v, e = .returned v ∧ w'.ownsRow w.heap.size 27 2 v (unitsOf s.data.toList).length (uc (unitsOf s.data.toList)) ∧ Below w.heap.size w w' := by
  obtain ⟨i0, hi, hz0, hz1, hz2⟩ := info_parts infoU
  have HT := Lib.hid hT
  clear hT
  refine (callsIn_wide (n := 6)).1 ?_
  refine callsIn_of_wp_marks Tryd.func15 rfl trivial ?_ rfl
  simp only [Tryd.ntmps15, List.size_toArray, List.length_cons, List.length_nil, Nat.reduceAdd, Nat.reduceSub, Array.replicate_succ, Array.replicate_zero, List.push_toArray, List.append_toArray, List.nil_append, List.cons_append]
  gi_wp2_with (refine ⟨trivial, ?_⟩; gi_at_call 12; refine (callsIn_wide.2 (walk_calls s _)).mono ?_; rintro e w' ⟨rfl, rfl⟩)
  have bO := (Boxed.new w 36 (.slice none 0 0)).alloc (.cells #[.string s] 9)
  have bS := heap_alloc_new (w.alloc (.cells #[.slice none 0 0] 36)) (.cells #[.string s] 9)
  have hB0 : Below w.heap.size w ((w.alloc (.cells #[.slice none 0 0] 36)).alloc (.cells #[.string s] 9)) := bel_alloc (bel_alloc (Below.refl _ w) _) _
  have hsz : ((w.alloc (.cells #[.slice none 0 0] 36)).alloc (.cells #[.string s] 9)).heap.size = w.heap.size + 2 := by simp
  rw [Wk.size_alloc] at bS
  have hN := usAt_len s.data.toList
  rw [size_len] at hN
  obtain ⟨W0, hW0⟩ : ∃ W0, (w.alloc (.cells #[.slice none 0 0] 36)).alloc (.cells #[.string s] 9) = W0 := ⟨_, rfl⟩
  rw [hW0] at bO bS hB0 hsz ⊢
  clear hW0
  refine wpIn_rangeFunc_ownH rfl (by omega) (gf := 30) (lb := #[.pointer (some ⟨w.heap.size + 1, 0, none⟩)]) rfl trivial (enters_of Tryd.func30 (by kernel_rfl) rfl)
    (walk_stops s hs _ (by omega) (w.heap.size + 1) w.heap.size w W0 rfl HT.out hB0 bS) KU.trans (KU.putObj (by omega) (by omega)) (Below.refl _ _) (fun _ => rfl)
    (fun pre W => ((∃ v, Boxed W w.heap.size 36 v ∧ W.ownsRow w.heap.size 27 2 v pre.length (uc (pre.map (·.1.2))) ∧ (pre.length = 0 → v = .slice none 0 0)) ∧ Boxed W (w.heap.size + 1) 9 (.string s)) ∧ Below w.heap.size w W)
    (fun _ _ _ => False)
    (OwnFrom.and (OwnFrom.and (Own.from (holdsRow_own w.heap.size w.heap.size 36 27 2 (fun pre : List (UnIn s.data.toList) => pre.length) (fun pre => uc (pre.map (·.1.2))) (fun pre v => pre.length = 0 → v = .slice none 0 0)) _) (Own.from (boxed_own _ _ _) _)) (ownFrom_below (Nat.le_refl _) (by omega)))
    (fun _ _ _ _ _ hs _ _ => hs)
    ⟨⟨⟨_, bO, World.ownsRow_nil _ _ _ _, fun _ => rfl⟩, bS⟩, hB0⟩
    (fun x a' W => ∃ Bx, w.heap.size + 1 < Bx ∧ W.heap[Bx]? = some (.cells #[.int .i32 x.1.2.1, .int .i64 (x.1.2.2 : Nat)] 27 (0, 0)) ∧ a' = { tmps := #[.string s, undef, .slice none 0 0, .pointer (some ⟨w.heap.size, 0, none⟩), undef, .pointer (some ⟨Bx, 0, none⟩), .string s, .func (.func 30) #[] #[.pointer (some ⟨w.heap.size + 1, 0, none⟩)], .int .i64 (x.1.1 : Nat), .agg #[.int .i32 x.1.2.1, .int .i64 (x.1.2.2 : Nat)], undef, undef, undef, undef, undef], defers := [] })
    (fun x a' _ X Y row hs hg hr => by
      obtain ⟨Bx, h1, h2, h3⟩ := hs
      refine ⟨Bx, h1, (hg.block Bx (blk_lt h2) (fun e => ?_)).trans h2, h3⟩
      obtain ⟨-, o, ho, hc⟩ := hr Bx e.symm
      rw [h2] at ho; cases ho; cases hc)
    ?assign ?body ?done ?stop
  case assign =>
    rintro l pre x W K ⟨⟨⟨v, hv, hrow, hnil⟩, hbs⟩, hB1⟩ hK
    dsimp only [uE]
    gi_wp2
    exact hK _ _ ((KeepsOthers.alloc _ _).from _) (KU.alloc hB1.size _) ⟨⟨⟨v, hv.alloc _, hrow.alloc _, hnil⟩, hbs.alloc _⟩, hB1.alloc hB1.size _⟩ ⟨W.heap.size, hbs.lt, heap_alloc_new W _, rfl⟩
  case body =>
    rintro l pre x a' W hl ⟨r, hr⟩ ⟨⟨⟨v, hv, hrow, hnil⟩, hbs⟩, hB1⟩ ⟨Bx, hBx, bX, rfl⟩ hlt
    have cO := hv.cell
    have fO := hv.frozen
    have x0 := blk_cell bX 0
    have x1 := blk_cell bX 1
    simp only [List.getElem?_toArray, List.getElem?_cons_succ, List.getElem?_cons_zero] at x0 x1
    have hpl : pre.length + 1 ≤ 1000000000 := by omega
    gi_wp2_with (gi_at_builtin; refine wpListIn_append_two _ rfl _ _ 36 rfl w.heap.size 27 i0 (.agg #[.int .i32 0, .int .i64 0]) 2 16 Tryd.underlying36 hi hz0 hz1 hz2 rfl (by decide) _ _ _ rfl (hrow.alloc _) hnil ⟨W.heap.size, 0, none⟩ 1 1 [.int .i32 x.1.2.1, .int .i64 (x.1.2.2 : Nat)] rfl rfl (Wk.cells_new W _ 27) (by simp [Value.oneCell']) (by unfold maxLen; omega) (by omega) (by have := hB1.size; simp; omega) ?_; intro v' w1 hown' hgrow htwo; obtain ⟨g', cap', rfl⟩ := ownsRow_succ hown'; obtain ⟨hv1, hv2, hr2, hk2, hb2⟩ := hv.appended (by decide) hrow hB1.size (Nat.le_refl _) hown' hgrow; have hc1 := hv1.cell; have hf1 := hv1.frozen)
    have hKU := KU.appended (Bn := w.heap.size + 1) hb2 hv (by decide) hbs (by omega) htwo hgrow
    refine ⟨hk2.from _, hKU, ⟨⟨_, hv2, ?_, fun h => by simp at h⟩, (hKU.bn hbs.lt).trans hbs⟩, hB1.trans hb2⟩
    rw [List.length_append, List.map_append, List.map_cons, List.map_nil, uc_snoc]
    exact hr2
  case done =>
    rintro D zs W hD hz ⟨⟨⟨v, hv, hrow, hnil⟩, hbs⟩, hB1⟩ hK
    have cS := hv.cell
    gi_wp2
    refine ⟨by simp, .inl ⟨_, _, rfl, run_takeDeferred hK, ?_⟩⟩
    have hzm : zs.map (·.1.2) = unitsOf s.data.toList := by
      have h1 := congrArg (List.map (·.2)) hz
      rw [List.map_map, usAt_map] at h1
      exact h1
    have hzl : zs.length = (unitsOf s.data.toList).length := by rw [← hzm, List.length_map]
    have hr2 : W.ownsRow w.heap.size 27 2 v (unitsOf s.data.toList).length (uc (unitsOf s.data.toList)) := by rw [← hzl, ← hzm]; exact hrow
    exact ⟨_, results_tmp rfl _ _ _, v, rfl, ownsRow_putObj hr2 _ hK rfl, hB1.trans (belowK_b (w := w) (Nat.le_refl _) W D _ _ (by omega) hK rfl rfl)⟩
  case stop =>
    rintro D c pre W _ _ h _
    exact h.elim
end Go.Proofs.YtjjilhfebkeoeaaDoor.Un
