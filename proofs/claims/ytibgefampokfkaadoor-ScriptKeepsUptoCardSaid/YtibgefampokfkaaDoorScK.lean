/- The reference's Piece, decimal, Line: walked. -/
import Derived.Test.YtibgefampokfkaaDoorScJ
import Derived.Test.YtibgefampokfkaaDoorWTab
import Derived.IntWalk
namespace Go.Proofs.YtibgefampokfkaaDoor.Sc
open Go Go.RowKit Go.Proofs.YtibgefampokfkaaDoor.Cut Go.Proofs.YtibgefampokfkaaDoor.PSc
open Go.Proofs.YtibgefampokfkaaDoorW.PrintWords (bt rdOf Kd Drawn0 Reps)
open Go.Proofs.YtibgefampokfkaaDoor.Wk (bcell bel_drew bel_alloc bel_set bel_call size_len mk_data blk_alloc blk_below blk_drewN blk_cell string_of_own own_slice own_below beq_true_i bne_true_i bne_false_i)
open Go.Proofs.YtibgefampokfkaaDoor.Wk (cells_new var_below)
open Go.Proofs.YtibgefampokfkaaDoorW.PrintLast
set_option linter.unusedVariables false
set_option linter.unusedSimpArgs false

theorem pc_me : ∀ i : Nat, i < 5 → pc (me i) = [92, le i]
  | 0, _ => rfl | 1, _ => rfl | 2, _ => rfl | 3, _ => rfl | 4, _ => rfl
  | n + 5, h => absurd h (by omega)
theorem pc_rest {c : UInt8} (h : ∀ j : Nat, j < 5 → me j ≠ c) : pc c = if 32 ≤ (c.toNat : Int) ∧ (c.toNat : Int) ≤ 126 then [c] else [92, 120, hexOf (c.toNat / 16), hexOf (c.toNat % 16)] := by
  have h0 : ¬ c = 92 := fun e => h 0 (by omega) e.symm
  have h1 : ¬ c = 10 := fun e => h 1 (by omega) e.symm
  have h2 : ¬ c = 13 := fun e => h 2 (by omega) e.symm
  have h3 : ¬ c = 9 := fun e => h 3 (by omega) e.symm
  have h4 : ¬ c = 27 := fun e => h 4 (by omega) e.symm
  have e6 : (32 ≤ (c.toNat : Int) ∧ (c.toNat : Int) ≤ 126) ↔ (32 ≤ c ∧ c ≤ 126) := by rw [UInt8.le_iff_toNat_le, UInt8.le_iff_toNat_le]; simp; omega
  simp only [pc, if_neg h0, if_neg h1, if_neg h2, if_neg h3, if_neg h4, e6]


/-- append, as one step of a region that draws its order: a fresh row of bytes is laid behind an own one. -/
theorem step_app {P : Program} {ops : Array Oper} {o : Oper} {a : Act} {Q : Exit → Act → World → Prop} {K : Act → World → Prop} {w0 W : World} (base : Nat) (hw : Region.wanted o (yielded ops a.tmps) = true) (s x : Operand) (t e : TypeId) (i0 : TypeInfo)
    (ho : o.op = .call { callee := .builtin .append, args := #[s, x], argTypes := #[t, t] }) (ht : P.underlying t = some (.slice e)) (hi : P.info? e = some i0) (hz0 : i0.zero = some (.int .u8 0)) (hz1 : i0.size = 1) (hz2 : i0.bytes = 1)
    (v : Value) (n m : Nat) (xs ys : List Value) (hs : a.eval s = v) (hx : a.eval x = .slice (some ⟨W.heap.size, 0, none⟩) m m) (hys : ys.length = m) (h1 : ∀ u ∈ ys, u.oneCell' = true)
    (HO : W.ownsRow base e 1 v n xs) (HB : Below base w0 W) (hbase : base ≤ W.heap.size) (hl : n + m ≤ 140737488355328)
    (h : ∀ v1 w1, w1.ownsRow base e 1 v1 (n + m) (xs ++ ys) → Below base w0 w1 → K (a.put o.dst v1) w1) :
    if Region.wanted o (yielded ops a.tmps) = true then Oper.wp P o a (W.alloc (.cells ys.toArray e)) K Q else K (a.put o.dst undef) (W.alloc (.cells ys.toArray e)) := by
  rw [if_pos hw]
  obtain ⟨v1, w1, hr, hown, hg, _, _⟩ := run_append_own_at (P := P) (W.alloc (.cells ys.toArray e)) base t o.type e i0 (.int .u8 0) 1 1 ht hi hz0 hz1 hz2 rfl (by decide) v n xs (HO.alloc _) ⟨W.heap.size, 0, none⟩ m m ys (by rw [hys]; simp)
    (cells_new W ys e) h1 (by simp only [maxLen]; omega) (by omega) (by simp; omega)
  unfold Oper.wp execOp
  simp only [ho, resolve, invoke, builtin, Sem.run_bind, Sem.run_pure, Result.andThen_ok, List.map_toArray, List.map_cons, List.map_nil, hs, hx, hr]
  exact h v1 w1 hown ((HB.alloc hbase _).grown hg (by simp; omega) (fun k hk => (HO.lt k hk).1))
theorem own_of_drew {W wd : World} {base n : Nat} {e : TypeId} {size : Nat} {v : Value} {xs : List Value} (h : W.ownsRow base e size v n xs) (hw : W.drew = wd) : wd.ownsRow base e size v n xs := by subst hw; exact h
def rpT11 : Bool × List (List Nat × List Nat) := (true, [([], []), ([], []), ([], []), ([2], [2]), ([1, 3], [1, 3]), ([], []), ([], []), ([6], [6]), ([5, 7], [5, 7]), ([4, 8], [4, 8]), ([0, 9], [0, 9]), ([10, 10, 0, 1, 2, 3, 4, 5, 6, 7, 8, 9, 10], [0, 10])])
def rpB11 : List Nat := [0, 0, 0, 4, 14, 0, 0, 64, 224, 510, 1023, 2047]
theorem rptab11 : rtab .any (opsOf Tryd.f16 11) = rpT11 := by kernel_rfl
theorem rpbits11 : waitsOk rpT11.2 rpB11 = true := by kernel_rfl

set_option maxHeartbeats 8000000 in
set_option maxRecDepth 100000 in
theorem rpiece_calls (s : ByteArray) (w : World) (hs : s.size ≤ 1000000000) :
    Calls Tryd.prog 16 #[.string s] w fun e w' => e = .returned (.string ⟨(piece s.data.toList).toArray⟩) ∧ Below w.heap.size w w' := by
  obtain ⟨i0, hi, hz0, hz1, hz2⟩ := info_parts infoByte
  go_enter Tryd.func16, Tryd.ntmps16
  go_wp2
  go_loopw [6, 7] (fun v6 v7 wr => ∃ (k : Nat), v7 = .int .i64 k ∧ k ≤ s.size ∧ wr.ownsRow w.heap.size 5 1 v6 (piece (s.data.toList.take k)).length (Lib.byteCells (piece (s.data.toList.take k))) ∧ Below w.heap.size w wr) (fun _ v7 _ => s.size - (intOf v7).toNat)
  case atStart => exact ⟨0, rfl, by omega, World.ownsRow_nil _ _ _ _, Below.refl _ _⟩
  case round =>
    obtain ⟨k, rfl, hk, hown, hB⟩ := hrel
    have hW := hB.size
    have hL : (piece (s.data.toList.take k)).length ≤ 4000000000 := by have := piece_len (s.data.toList.take k); simp only [List.length_take] at this; omega
    by_cases hlt : k < s.size
    · have hc : (s[k].toNat : Int) < 256 := by have := s[k].toNat_lt; omega
      have e0 := take_snoc s k hlt
      have e1 := piece_snoc (s.data.toList.take k) s[k]
      have e2 : Hid (piece (s.data.toList.take (k + 1)) = piece (s.data.toList.take k) ++ pc s[k]) := by show _ = _; rw [e0]; exact e1
      clear e0 e1
      obtain ⟨o, ho⟩ : ∃ o, piece (s.data.toList.take k) = o := ⟨_, rfl⟩
      rw [ho] at hown hL e2
      clear ho
      go_wp2
      obtain ⟨wo, rfl⟩ : ∃ wo : World, wo = wr := ⟨_, rfl⟩
      have HO := Lib.hid hown
      have HB := Lib.hid hB
      clear hown hB
      go_loop [9] (fun v9 => ∃ i : Nat, v9 = .int .i64 i ∧ i ≤ 5 ∧ Hid (∀ j : Nat, j < i → me j ≠ s[k])) (fun v9 => 5 - (intOf v9).toNat)
      case atStart => exact ⟨0, rfl, by omega, fun j hj => absurd hj (by omega)⟩
      case round =>
        obtain ⟨i, rfl, hi5, hn⟩ := hrel
        have hown := HO.out
        by_cases hlt5 : i < 5
        · have hm := meat i hlt5
          have hl := leat i hlt5
          have hi6 : (i : Int) < 5 := by omega
          by_cases hq : me i = s[k]
          · have q : (((me i).toNat : Int) != (s[k].toNat : Int)) = false := bne_false_i (by rw [hq])
            have hpc : Hid (pc s[k] = [92, le i]) := by show _ = _; rw [← hq]; exact pc_me i hlt5
            clear hq
            go_wp2_with (at_builtin; refine wpList_append_own _ rfl _ _ 41 rfl w.heap.size 5 i0 (.int .u8 0) 1 1 Tryd.underlying41 hi hz0 hz1 hz2 rfl (by decide) _ _ _ rfl (hown.alloc _) ⟨wo.heap.size, 0, none⟩ 2 2 [.int .u8 92, .int .u8 (le i).toNat] rfl rfl (cells_new wo _ 5) (by simp [Value.oneCell']) ?c3 ?c4 ?c5 ?_)
            case c3 => unfold maxLen; omega
            case c4 => omega
            case c5 => first | omega | (simp; omega)
            intro v' w2 hown' hgrow _
            have hB2 : Below w.heap.size w w2 := (bel_alloc HB.out _).grown hgrow (by simp; omega) (fun k hk => (hown.lt k hk).1)
            go_wp2
            exact ⟨⟨k + 1, by go_num, by omega, by rw [e2.out, hpc.out]; simpa [Lib.byteCells] using hown', hB2⟩, by simp [intOf]; omega⟩
          · have q : (((me i).toNat : Int) != (s[k].toNat : Int)) = true := bne_true_i (fun h => hq (by rw [← UInt8.toNat_inj]; omega))
            have HQ := Lib.hid hq
            clear hq
            go_wp2
            go_round
            case rel => exact ⟨i + 1, by go_num, by omega, fun j hj => by
              rcases Nat.lt_or_ge j i with h | h
              · exact hn.out j h
              · rw [show j = i from by omega]; exact HQ.out⟩
            case measure => simp [intOf]; omega
        · have hi6 : 5 ≤ (i : Int) := by omega
          have hpc := Lib.hid (pc_rest (c := s[k]) (fun j hj => hn.out j (by omega)))
          by_cases h32 : 32 ≤ (s[k].toNat : Int) ∧ (s[k].toNat : Int) ≤ 126
          · have h32o := Lib.hid h32
            obtain ⟨ha, hb⟩ := h32
            go_wp2_with (at_builtin; go_loud (refine wpList_append_own _ rfl _ _ 41 rfl w.heap.size 5 i0 (.int .u8 0) 1 1 Tryd.underlying41 hi hz0 hz1 hz2 rfl (by decide) _ _ _ rfl (hown.alloc _) ⟨wo.heap.size, 0, none⟩ 1 1 [.int .u8 s[k].toNat] rfl rfl (cells_new wo _ 5) (by simp [Value.oneCell']) ?c3 ?c4 ?c5 ?_))
            case c3 => unfold maxLen; omega
            case c4 => omega
            case c5 => first | omega | (simp; omega)
            intro v' w2 hown' hgrow _
            have hB2 : Below w.heap.size w w2 := (bel_alloc HB.out _).grown hgrow (by simp; omega) (fun k hk => (hown.lt k hk).1)
            go_wp2
            exact ⟨⟨k + 1, by go_num, by omega, by rw [e2.out, hpc.out, if_pos h32o.out]; simpa [Lib.byteCells] using hown', hB2⟩, by simp [intOf]; omega⟩
          · have h32o := Lib.hid h32
            obtain ⟨m1, hm1⟩ : ∃ m, s[k].toNat / 16 = m := ⟨_, rfl⟩
            obtain ⟨m2, hm2⟩ : ∃ m, s[k].toNat % 16 = m := ⟨_, rfl⟩
            have dw : IntKind.u8.wrap ((s[k].toNat : Int) / 16) = (m1 : Int) := by
              rw [show (s[k].toNat : Int) / 16 = (m1 : Int) from by omega]
              rw [IntKind.wrap_u8]; omega
            have dv : Int.tmod (s[k].toNat : Int) 16 = (m2 : Int) := by rw [Int.tmod_eq_emod_of_nonneg (by omega)]; omega
            have d1 := hexat m1 (by omega)
            have d2 := hexat m2 (by omega)
            have q1 : ((m1 : Int) < 16) = True := eq_true (by omega)
            have q2 : ((m2 : Int) < 16) = True := eq_true (by omega)
            have hpc := hpc.out
            rw [if_neg h32, hm1, hm2] at hpc
            replace hpc := Lib.hid hpc
            replace hm1 := Lib.hid hm1
            replace hm2 := Lib.hid hm2
            have hnn : 0 ≤ (s[k].toNat : Int) := by omega
            by_cases ha : 32 ≤ (s[k].toNat : Int)
            · have hb : 126 < (s[k].toNat : Int) := by omega
              clear h32
              go_wp2_with fail
              refine start_ (n := 12) (S := fun w' => True) (ds := []) #[false, false, false, false, false, false, false, false, false, false, false, false] (by kernel_rfl) rfl rfl trivial (fun hHeld => ?_); refine with_tabW rptab11 rpbits11 (fun HT_ HW_ => ?_)
              obtain ⟨wd, hwd⟩ : ∃ wd, wo.drew = wd := ⟨_, rfl⟩
              have hownd := own_of_drew hown hwd
              have HBd : Hid (Below w.heap.size w wd) := by rw [← hwd]; exact bel_drew HB.out
              rw [hwd]
              clear hwd
              refine pure_ (i := 0) (N := some 32) (v := ?_) (a' := ?_) #[true, false, false, false, false, false, false, false, false, false, false, false] rfl rfl (any_of HT_.out (by kernel_rfl)) (fun _ _ _ h => h) (Or.inl ⟨by rfl, ?_⟩) ?_ ?_
              rotate_left
              · intro w'
                go_simp
                with_reducible rfl
              rotate_left
              · simp only [Act.put, List.setIfInBounds_toArray, List.set_cons_zero, List.set_cons_succ, i64_w, i32_w, dw, dv]
                rfl
              refine pure_ (i := 1) (N := some 33) (v := ?_) (a' := ?_) #[true, true, false, false, false, false, false, false, false, false, false, false] rfl rfl (any_of HT_.out (by kernel_rfl)) (fun _ _ _ h => h) (Or.inl ⟨by rfl, ?_⟩) ?_ ?_
              rotate_left
              · intro w'
                go_simp
                with_reducible rfl
              rotate_left
              · simp only [Act.put, List.setIfInBounds_toArray, List.set_cons_zero, List.set_cons_succ, i64_w, i32_w, dw, dv]
                rfl
              refine pure_ (i := 2) (N := some 34) (v := ?_) (a' := ?_) #[true, true, true, false, false, false, false, false, false, false, false, false] rfl rfl (any_of HT_.out (by kernel_rfl)) (fun _ _ _ h => h) (Or.inl ⟨by rfl, ?_⟩) ?_ ?_
              rotate_left
              · intro w'
                go_simp
                with_reducible rfl
              rotate_left
              · simp only [Act.put, List.setIfInBounds_toArray, List.set_cons_zero, List.set_cons_succ, i64_w, i32_w, dw, dv]
                rfl
              refine pure_ (i := 3) (N := some 35) (v := ?_) (a' := ?_) #[true, true, true, true, false, false, false, false, false, false, false, false] rfl rfl (any_of HT_.out (by kernel_rfl)) (fun _ _ _ h => h) (Or.inl ⟨by rfl, ?_⟩) ?_ ?_
              rotate_left
              · intro w'
                go_simp
                with_reducible rfl
              rotate_left
              · simp only [Act.put, List.setIfInBounds_toArray, List.set_cons_zero, List.set_cons_succ, i64_w, i32_w, dw, dv]
                rfl
              refine pure_ (i := 5) (N := some 37) (v := ?_) (a' := ?_) #[true, true, true, true, false, true, false, false, false, false, false, false] rfl rfl (any_of HT_.out (by kernel_rfl)) (fun _ _ _ h => h) (Or.inl ⟨by rfl, ?_⟩) ?_ ?_
              rotate_left
              · intro w'
                go_simp
                with_reducible rfl
              rotate_left
              · simp only [Act.put, List.setIfInBounds_toArray, List.set_cons_zero, List.set_cons_succ, i64_w, i32_w, dw, dv]
                rfl
              refine pure_ (i := 6) (N := some 38) (v := ?_) (a' := ?_) #[true, true, true, true, false, true, true, false, false, false, false, false] rfl rfl (any_of HT_.out (by kernel_rfl)) (fun _ _ _ h => h) (Or.inl ⟨by rfl, ?_⟩) ?_ ?_
              rotate_left
              · intro w'
                go_simp
                with_reducible rfl
              rotate_left
              · simp only [Act.put, List.setIfInBounds_toArray, List.set_cons_zero, List.set_cons_succ, i64_w, i32_w, dw, dv]
                rfl
              refine pure_ (i := 7) (N := some 39) (v := ?_) (a' := ?_) #[true, true, true, true, false, true, true, true, false, false, false, false] rfl rfl (any_of HT_.out (by kernel_rfl)) (fun _ _ _ h => h) (Or.inl ⟨by rfl, ?_⟩) ?_ ?_
              rotate_left
              · intro w'
                go_simp
                with_reducible rfl
              rotate_left
              · simp only [Act.put, List.setIfInBounds_toArray, List.set_cons_zero, List.set_cons_succ, i64_w, i32_w, dw, dv]
                rfl
              refine take_ (i := 4) (N := some 36) (v := ?_) (a' := ?_) #[true, true, true, true, true, true, true, true, false, false, false, false] rfl rfl (take_ofW HT_.out HW_.out (by kernel_rfl)) (fun _ _ _ h => h) (Or.inl ⟨by rfl, ?_⟩) hHeld ?_ ?_
              rotate_left
              · intro w' _
                go_simp
                with_reducible rfl
              rotate_left
              · simp only [Act.put, List.setIfInBounds_toArray, List.set_cons_zero, List.set_cons_succ, i64_w, i32_w, dw, dv]
                rfl
              refine take_ (i := 8) (N := some 40) (v := ?_) (a' := ?_) #[true, true, true, true, true, true, true, true, true, false, false, false] rfl rfl (take_ofW HT_.out HW_.out (by kernel_rfl)) (fun _ _ _ h => h) (Or.inl ⟨by rfl, ?_⟩) hHeld ?_ ?_
              rotate_left
              · intro w' _
                go_simp
                with_reducible rfl
              rotate_left
              · simp only [Act.put, List.setIfInBounds_toArray, List.set_cons_zero, List.set_cons_succ, i64_w, i32_w, dw, dv]
                rfl
              refine one_ (i := 9) (N := some 41) #[true, true, true, true, true, true, true, true, true, true, false, false] rfl rfl (Go.Proofs.YtibgefampokfkaaDoorW.PrintLast.one_of HT_.out (by kernel_rfl)) (by decide) (fun K hK => ?_)
              go_wp2
              refine hK.out _ _ trivial (fun hHeld => ?_)
              clear hK K
              refine one_ (i := 10) (N := some 42) #[true, true, true, true, true, true, true, true, true, true, true, false] rfl rfl (Go.Proofs.YtibgefampokfkaaDoorW.PrintLast.one_of HT_.out (by kernel_rfl)) (by decide) (fun K hK => ?_)
              refine step_app (w0 := w) w.heap.size (by rfl) (.tmp 32) (.tmp 41) 41 5 i0 rfl Tryd.underlying41 hi hz0 hz1 hz2 _ o.length 4 _ [.int .u8 92, .int .u8 120, .int .u8 (hexOf m1).toNat, .int .u8 (hexOf m2).toNat] rfl rfl rfl (by simp [Value.oneCell']) hownd HBd.out HBd.out.size (by omega) ?_
              intro v' w2 hown' hB2
              refine hK.out _ _ trivial (fun hHeld => ?_)
              clear hK K
              refine pure_ (i := 11) (N := some 6) (v := ?_) (a' := ?_) #[true, true, true, true, true, true, true, true, true, true, true, true] rfl rfl (any_of HT_.out (by kernel_rfl)) (fun _ _ _ h => h) (Or.inl ⟨by rfl, ?_⟩) ?_ ?_
              rotate_left
              · intro w'
                go_simp
                with_reducible rfl
              rotate_left
              · simp only [Act.put, List.setIfInBounds_toArray, List.set_cons_zero, List.set_cons_succ]
                rfl
              refine done_ (done_of HT_.out (by kernel_rfl)) ?_
              go_wp2
              exact ⟨⟨k + 1, by go_num, by omega, by rw [e2.out, hpc.out]; simpa [Lib.byteCells] using hown', hB2⟩, by simp [intOf]; omega⟩
            · have hb : (s[k].toNat : Int) < 32 := by omega
              clear h32 ha
              go_wp2_with fail
              refine start_ (n := 12) (S := fun w' => True) (ds := []) #[false, false, false, false, false, false, false, false, false, false, false, false] (by kernel_rfl) rfl rfl trivial (fun hHeld => ?_); refine with_tabW rptab11 rpbits11 (fun HT_ HW_ => ?_)
              obtain ⟨wd, hwd⟩ : ∃ wd, wo.drew = wd := ⟨_, rfl⟩
              have hownd := own_of_drew hown hwd
              have HBd : Hid (Below w.heap.size w wd) := by rw [← hwd]; exact bel_drew HB.out
              rw [hwd]
              clear hwd
              refine pure_ (i := 0) (N := some 32) (v := ?_) (a' := ?_) #[true, false, false, false, false, false, false, false, false, false, false, false] rfl rfl (any_of HT_.out (by kernel_rfl)) (fun _ _ _ h => h) (Or.inl ⟨by rfl, ?_⟩) ?_ ?_
              rotate_left
              · intro w'
                go_simp
                with_reducible rfl
              rotate_left
              · simp only [Act.put, List.setIfInBounds_toArray, List.set_cons_zero, List.set_cons_succ, i64_w, i32_w, dw, dv]
                rfl
              refine pure_ (i := 1) (N := some 33) (v := ?_) (a' := ?_) #[true, true, false, false, false, false, false, false, false, false, false, false] rfl rfl (any_of HT_.out (by kernel_rfl)) (fun _ _ _ h => h) (Or.inl ⟨by rfl, ?_⟩) ?_ ?_
              rotate_left
              · intro w'
                go_simp
                with_reducible rfl
              rotate_left
              · simp only [Act.put, List.setIfInBounds_toArray, List.set_cons_zero, List.set_cons_succ, i64_w, i32_w, dw, dv]
                rfl
              refine pure_ (i := 2) (N := some 34) (v := ?_) (a' := ?_) #[true, true, true, false, false, false, false, false, false, false, false, false] rfl rfl (any_of HT_.out (by kernel_rfl)) (fun _ _ _ h => h) (Or.inl ⟨by rfl, ?_⟩) ?_ ?_
              rotate_left
              · intro w'
                go_simp
                with_reducible rfl
              rotate_left
              · simp only [Act.put, List.setIfInBounds_toArray, List.set_cons_zero, List.set_cons_succ, i64_w, i32_w, dw, dv]
                rfl
              refine pure_ (i := 3) (N := some 35) (v := ?_) (a' := ?_) #[true, true, true, true, false, false, false, false, false, false, false, false] rfl rfl (any_of HT_.out (by kernel_rfl)) (fun _ _ _ h => h) (Or.inl ⟨by rfl, ?_⟩) ?_ ?_
              rotate_left
              · intro w'
                go_simp
                with_reducible rfl
              rotate_left
              · simp only [Act.put, List.setIfInBounds_toArray, List.set_cons_zero, List.set_cons_succ, i64_w, i32_w, dw, dv]
                rfl
              refine pure_ (i := 5) (N := some 37) (v := ?_) (a' := ?_) #[true, true, true, true, false, true, false, false, false, false, false, false] rfl rfl (any_of HT_.out (by kernel_rfl)) (fun _ _ _ h => h) (Or.inl ⟨by rfl, ?_⟩) ?_ ?_
              rotate_left
              · intro w'
                go_simp
                with_reducible rfl
              rotate_left
              · simp only [Act.put, List.setIfInBounds_toArray, List.set_cons_zero, List.set_cons_succ, i64_w, i32_w, dw, dv]
                rfl
              refine pure_ (i := 6) (N := some 38) (v := ?_) (a' := ?_) #[true, true, true, true, false, true, true, false, false, false, false, false] rfl rfl (any_of HT_.out (by kernel_rfl)) (fun _ _ _ h => h) (Or.inl ⟨by rfl, ?_⟩) ?_ ?_
              rotate_left
              · intro w'
                go_simp
                with_reducible rfl
              rotate_left
              · simp only [Act.put, List.setIfInBounds_toArray, List.set_cons_zero, List.set_cons_succ, i64_w, i32_w, dw, dv]
                rfl
              refine pure_ (i := 7) (N := some 39) (v := ?_) (a' := ?_) #[true, true, true, true, false, true, true, true, false, false, false, false] rfl rfl (any_of HT_.out (by kernel_rfl)) (fun _ _ _ h => h) (Or.inl ⟨by rfl, ?_⟩) ?_ ?_
              rotate_left
              · intro w'
                go_simp
                with_reducible rfl
              rotate_left
              · simp only [Act.put, List.setIfInBounds_toArray, List.set_cons_zero, List.set_cons_succ, i64_w, i32_w, dw, dv]
                rfl
              refine take_ (i := 4) (N := some 36) (v := ?_) (a' := ?_) #[true, true, true, true, true, true, true, true, false, false, false, false] rfl rfl (take_ofW HT_.out HW_.out (by kernel_rfl)) (fun _ _ _ h => h) (Or.inl ⟨by rfl, ?_⟩) hHeld ?_ ?_
              rotate_left
              · intro w' _
                go_simp
                with_reducible rfl
              rotate_left
              · simp only [Act.put, List.setIfInBounds_toArray, List.set_cons_zero, List.set_cons_succ, i64_w, i32_w, dw, dv]
                rfl
              refine take_ (i := 8) (N := some 40) (v := ?_) (a' := ?_) #[true, true, true, true, true, true, true, true, true, false, false, false] rfl rfl (take_ofW HT_.out HW_.out (by kernel_rfl)) (fun _ _ _ h => h) (Or.inl ⟨by rfl, ?_⟩) hHeld ?_ ?_
              rotate_left
              · intro w' _
                go_simp
                with_reducible rfl
              rotate_left
              · simp only [Act.put, List.setIfInBounds_toArray, List.set_cons_zero, List.set_cons_succ, i64_w, i32_w, dw, dv]
                rfl
              refine one_ (i := 9) (N := some 41) #[true, true, true, true, true, true, true, true, true, true, false, false] rfl rfl (Go.Proofs.YtibgefampokfkaaDoorW.PrintLast.one_of HT_.out (by kernel_rfl)) (by decide) (fun K hK => ?_)
              go_wp2
              refine hK.out _ _ trivial (fun hHeld => ?_)
              clear hK K
              refine one_ (i := 10) (N := some 42) #[true, true, true, true, true, true, true, true, true, true, true, false] rfl rfl (Go.Proofs.YtibgefampokfkaaDoorW.PrintLast.one_of HT_.out (by kernel_rfl)) (by decide) (fun K hK => ?_)
              refine step_app (w0 := w) w.heap.size (by rfl) (.tmp 32) (.tmp 41) 41 5 i0 rfl Tryd.underlying41 hi hz0 hz1 hz2 _ o.length 4 _ [.int .u8 92, .int .u8 120, .int .u8 (hexOf m1).toNat, .int .u8 (hexOf m2).toNat] rfl rfl rfl (by simp [Value.oneCell']) hownd HBd.out HBd.out.size (by omega) ?_
              intro v' w2 hown' hB2
              refine hK.out _ _ trivial (fun hHeld => ?_)
              clear hK K
              refine pure_ (i := 11) (N := some 6) (v := ?_) (a' := ?_) #[true, true, true, true, true, true, true, true, true, true, true, true] rfl rfl (any_of HT_.out (by kernel_rfl)) (fun _ _ _ h => h) (Or.inl ⟨by rfl, ?_⟩) ?_ ?_
              rotate_left
              · intro w'
                go_simp
                with_reducible rfl
              rotate_left
              · simp only [Act.put, List.setIfInBounds_toArray, List.set_cons_zero, List.set_cons_succ]
                rfl
              refine done_ (done_of HT_.out (by kernel_rfl)) ?_
              go_wp2
              exact ⟨⟨k + 1, by go_num, by omega, by rw [e2.out, hpc.out]; simpa [Lib.byteCells] using hown', hB2⟩, by simp [intOf]; omega⟩
    · obtain ⟨A, c, rfl⟩ := own_slice hown
      have hcv := string_of_own (P := Tryd.prog) (src := 41) (dst := 9) Tryd.underlying41 Tryd.underlying5 Tryd.underlying9 hown
      go_wp2
      go_ret
      exact ⟨ret_str (by rw [List.take_of_length_le (by simp; omega)]), hB⟩
end Go.Proofs.YtibgefampokfkaaDoor.Sc
