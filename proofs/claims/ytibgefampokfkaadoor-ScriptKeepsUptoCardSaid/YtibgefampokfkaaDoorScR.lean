/- Two texts, one behind the other; remarks: the law's walk. -/
import Derived.Test.YtibgefampokfkaaDoorScQ
import Derived.Test.YtibgefampokfkaaDoorScO
import Derived.Lib.SlBytesConst
import Derived.ArgAppend
import Derived.Deep.AppendLies
namespace Go.Proofs.YtibgefampokfkaaDoor.Sc
open Go Go.RowKit Go.Proofs.YtibgefampokfkaaDoor.Cut Go.Proofs.YtibgefampokfkaaDoor.PSc
open Go.Proofs.YtibgefampokfkaaDoorW.PrintWords (bt rdOf Kd Drawn0 Reps Aside0)
open Go.Proofs.YtibgefampokfkaaDoor.Wk (bcell bel_drew bel_drewN bel_alloc bel_set bel_call size_len mk_data blk_alloc blk_below blk_drewN blk_cell string_of_own own_slice own_below beq_true_i bne_true_i bne_false_i cells_new var_below)
set_option linter.unusedVariables false
set_option linter.unusedSimpArgs false
theorem nls_snoc (l : List UInt8) (c : UInt8) : nls (l ++ [c]) = nls l + if c = 10 then 1 else 0 := by
  unfold nls
  rw [List.filter_append, List.length_append]
  by_cases h : c = 10 <;> simp [h]
theorem nls_le (l : List UInt8) : nls l ≤ l.length := List.length_filter_le _ _
theorem rd_len' {l : List UInt8} {L : List S37} {n e : Int} (h : rd l = (L, n, e)) : L.length ≤ l.length := by
  have := rd_len l
  rw [h] at this
  exact this
theorem string_of_cells {P : Program} {W : World} {src dst e n c g : Nat} {o : List UInt8} (hs : P.underlying src = some (.slice e)) (he : P.underlying e = some (.int .u8)) (hd : P.underlying dst = some .string) (hn : o.length = n)
    (hc : ∀ (j : Nat) (u : Value), (Lib.byteCells o)[j]? = some u → W.cell? ((⟨g, 0, none⟩ : Addr).add j) = some u) : (convert src dst (.slice (some ⟨g, 0, none⟩) n c)).run P W = .ok (.string ⟨o.toArray⟩) W := by
  have hl : (loadCells ⟨g, 0, none⟩ n).run P W = .ok ((o.map fun b => (b.toNat : Int)).map (Value.int .u8)).toArray W := by
    have := run_loadCells_list (P := P) W ⟨g, 0, none⟩ (Lib.byteCells o) (fun j u hj => hc j u hj)
    rw [Lib.byteCells_length, hn] at this
    rw [this]
    simp [Lib.byteCells, Function.comp_def]
  rw [run_convert_bytes_string W src dst e _ n c hs he hd, run_bytesToString W _ n c _ hl, foldl_push_bytes]
  congr 2
  simp [ByteArray.empty, ByteArray.emptyWithCapacity, Function.comp_def]
  rfl
theorem own_le {w : World} {base base' size n : Nat} {e : TypeId} {v : Value} {xs : List Value} (h : w.ownsRow base e size v n xs) (hb : base' ≤ base) : w.ownsRow base' e size v n xs :=
  ⟨h.1, h.2.elim Or.inl (fun ⟨g, cap, cur, hv, hg, r⟩ => Or.inr ⟨g, cap, cur, hv, Nat.le_trans hb hg, r⟩)⟩
theorem cell_of_alloc {w : World} {o : Obj} {a : Addr} {u : Value} (h : w.cell? a = some u) : (w.alloc o).cell? a = some u := by
  exact ((bel_alloc (Below.refl w.heap.size w) o).cell (World.block_lt_of_cell? w _ h)).trans h
theorem rdL_bound : ∀ (ls : List (List UInt8)) (n : Int) (acc L : List S37) (m : Int), rdL n acc ls = (L, m, 14) → n ≤ m ∧ m < n + ls.length := by
  intro ls
  induction ls with
  | nil => intro n acc L m h; simp [rdL] at h
  | cons a r ih =>
    intro n acc L m h
    rw [rdL] at h
    split at h
    · have := ih _ _ _ _ h; simp only [List.length_cons]; omega
    · split at h
      · have := ih _ _ _ _ h; simp only [List.length_cons]; omega
      · simp only [Prod.mk.injEq, and_true] at h
        simp only [List.length_cons]; omega
theorem rd_bound {l : List UInt8} {L : List S37} {m : Int} (h : rd l = (L, m, 14)) : 1 ≤ m ∧ m ≤ l.length := by
  have h1 := rdL_bound (lines l) 1 [] L m h
  have h2 := (lines_len l).1
  omega
def wdL (r : ByteArray) (i : Nat) : List UInt8 := 35 :: (r.data.toList.take i).filter (· != 10)
theorem wdL_len (r : ByteArray) (i : Nat) : (wdL r i).length ≤ i + 1 := by
  have := List.length_filter_le (· != (10 : UInt8)) (r.data.toList.take i)
  simp only [wdL, List.length_cons, List.length_take] at *
  omega
theorem wdL_skip (r : ByteArray) (i : Nat) (h : i < r.size) (h10 : r[i] = 10) : wdL r (i + 1) = wdL r i := by
  unfold wdL; rw [take_snoc r i h, List.filter_append, h10]; simp
theorem wdL_add (r : ByteArray) (i : Nat) (h : i < r.size) (h10 : r[i] ≠ 10) : wdL r (i + 1) = wdL r i ++ [r[i]] := by
  unfold wdL; rw [take_snoc r i h, List.filter_append]; simp [h10]
theorem wdL_no (r : ByteArray) (i : Nat) : ∀ x ∈ wdL r i, x ≠ 10 := by
  intro x hx
  rcases List.mem_cons.mp hx with rfl | h
  · decide
  · have := (List.mem_filter.mp h).2; simpa using this
theorem run_const (W : World) (n : Nat) : Sem.run Tryd.prog (convert 41 41 (.slice (some ⟨W.heap.size, 0, none⟩) 1 1)) ((W.drewN n).alloc (.cells #[.int .u8 35] 5)) = .ok (.slice (some ⟨W.heap.size, 0, none⟩) 1 1) ((W.drewN n).alloc (.cells #[.int .u8 35] 5 (1, 2))) :=
  Lib.run_convert_bytes_const (P := Tryd.prog) (W.drewN n) 41 5 #[.int .u8 35] 1 1 Tryd.underlying41 Tryd.underlying5
theorem const_cell (W : World) (n : Nat) : ∀ (j : Nat) (u : Value), (Lib.byteCells [35])[j]? = some u → ((W.drewN n).alloc (.cells #[.int .u8 35] 5 (1, 2))).cell? ((⟨W.heap.size, 0, none⟩ : Addr).add j) = some u := by
  intro j u hj
  have hb : ((W.drewN n).alloc (.cells #[.int .u8 35] 5 (1, 2))).heap[W.heap.size]? = some (.cells #[.int .u8 35] 5 (1, 2)) := heap_alloc_new (W.drewN n) _
  have ha : (⟨W.heap.size, 0, none⟩ : Addr).add j = ⟨W.heap.size, j, none⟩ := by unfold Addr.add; split <;> simp_all
  rw [ha]
  have hc : ((W.drewN n).alloc (.cells #[.int .u8 35] 5 (1, 2))).cell? ⟨W.heap.size, j, none⟩ = (#[Value.int .u8 35] : Array Value)[j]? := by
    simp only [World.cell?, hb]
    rw [if_neg (by simp)]
  rw [hc]
  simpa [Lib.byteCells] using hj
set_option maxHeartbeats 8000000 in
set_option maxRecDepth 100000 in
theorem lines_calls (a b r : ByteArray) (w : World) (ha : a.size ≤ 1048576) (hb : b.size ≤ 1048576) (hr : r.size ≤ 1048576) :
    Calls Tryd.prog 7 #[.string a, .string b, .string r] w fun e w' => e = .returned (.bool true) ∧ Below w.heap.size w w' := by
  have hu := Tryd.underlying37
  obtain ⟨La, na, ea, hA⟩ : ∃ L n e, rd a.data.toList = (L, n, e) := ⟨_, _, _, rfl⟩
  obtain ⟨Lb, nb, eb, hB⟩ : ∃ L n e, rd b.data.toList = (L, n, e) := ⟨_, _, _, rfl⟩
  have hC0 : (a ++ (⟨#[10]⟩ : ByteArray) ++ b).data.toList = a.data.toList ++ 10 :: b.data.toList := by
    rw [ByteArray.data_append, ByteArray.data_append, Array.toList_append, Array.toList_append, List.append_assoc]; rfl
  obtain ⟨Lc, nc, ec, hC⟩ : ∃ L n e, rd (a ++ (⟨#[10]⟩ : ByteArray) ++ b).data.toList = (L, n, e) := ⟨_, _, _, rfl⟩
  have hlA := rd_len' hA
  have hlB := rd_len' hB
  have hlC := rd_len' hC
  have hCs : (a ++ (⟨#[10]⟩ : ByteArray) ++ b).size ≤ 3000000 := by
    rw [ByteArray.size_append, ByteArray.size_append, show (⟨#[10]⟩ : ByteArray).size = 1 from rfl]; omega
  have hCs1 : (a ++ (⟨#[10]⟩ : ByteArray)).size ≤ 3000000 := by
    rw [ByteArray.size_append, show (⟨#[10]⟩ : ByteArray).size = 1 from rfl]; omega
  rw [size_len] at hlA hlB hlC
  have HA := Lib.hid hA
  have HB := Lib.hid hB
  have HC := Lib.hid hC
  have HC0 := Lib.hid hC0
  clear hA hB hC hC0
  have nl0 := nls_le a.data.toList
  rw [size_len] at nl0
  go_enter Tryd.func7, Tryd.ntmps7
  go_wp2_with (first
    | (go_at_call 9; refine (fixed_calls _).mono ?_; rintro e w1 ⟨rfl, hB⟩)
    | (go_at_call 10; (with_reducible refine (read_as HA.out _ (by omega)).mono ?_); rintro e w2 ⟨A1, c1, rfl, hC1, hc1, hb1⟩; replace hB := Lib.hid (bel_call hB hb1); clear hb1; replace hC1 := Lib.hid hC1)
    | (go_at_call 10; (with_reducible refine (read_as HB.out _ (by omega)).mono ?_); rintro e w3 ⟨A2, c2, rfl, hC2, hc2, hb1⟩; replace hB := Lib.hid (bel_call hB.out hb1); replace hC1 := Lib.hid (Kd.C_below hC1.out hb1); clear hb1; replace hC2 := Lib.hid hC2)
    | (go_at_call 10; (with_reducible refine (read_as HC.out _ (by omega)).mono ?_); rintro e w4 ⟨A3, c3, rfl, hC3, hc3, hb1⟩; replace hB := Lib.hid (bel_call hB.out hb1); replace hC1 := Lib.hid (Kd.C_below hC1.out hb1); replace hC2 := Lib.hid (Kd.C_below hC2.out hb1); clear hb1; replace hC3 := Lib.hid hC3))
  go_loop [16, 17] (fun v16 v17 => ∃ i : Nat, v17 = .int .i64 i ∧ i ≤ a.size ∧ v16 = .int .i64 (1 + nls (a.data.toList.take i) : Nat)) (fun _ v17 => a.size - (intOf v17).toNat)
  case atStart => exact ⟨0, rfl, Nat.zero_le _, rfl⟩
  case round =>
    obtain ⟨i, rfl, hi, rfl⟩ := hrel
    have nl1 : nls (a.data.toList.take i) ≤ 1048576 := by have := nls_le (a.data.toList.take i); simp only [List.length_take] at this; omega
    by_cases hlt : i < a.size
    · have e1 := nls_snoc (a.data.toList.take i) a[i]
      rw [← take_snoc a i hlt] at e1
      by_cases h10 : a[i] = 10
      · rw [if_pos h10] at e1
        have q : ((a[i].toNat : Int) == 10) = true := by rw [h10]; rfl
        have e2 := Lib.hid e1
        clear e1 h10
        go_wp2
        go_round
        case rel => exact ⟨i + 1, by go_num, by omega, by rw [e2.out]; go_num⟩
        case measure => simp [intOf]; omega
      · rw [if_neg h10] at e1
        have q : ((a[i].toNat : Int) == 10) = false := beq_false_i (fun h => h10 (by rw [← UInt8.toNat_inj]; simpa using (by omega : a[i].toNat = 10)))
        have e2 := Lib.hid e1
        clear e1 h10
        go_wp2
        go_round
        case rel => exact ⟨i + 1, by go_num, by omega, by rw [e2.out]; rfl⟩
        case measure => simp [intOf]; omega
    · have hfull : a.data.toList.take i = a.data.toList := List.take_of_length_le (by simp; omega)
      rw [hfull]
      rw [hfull] at nl1
      clear hfull
      rcases rd_cases a.data.toList with ⟨L, hL1, -⟩ | ⟨m, hm1, hm2⟩
      · rw [HA.out] at hL1
        simp only [Prod.mk.injEq] at hL1
        obtain ⟨-, rfl, rfl⟩ := hL1
        obtain ⟨-, ⟨M, h2, h3⟩ | ⟨k, h2, h3⟩⟩ := rd_join (b := b.data.toList) HA.out
        · rw [HB.out] at h2
          rw [← HC0.out, HC.out] at h3
          simp only [Prod.mk.injEq] at h2 h3
          obtain ⟨rfl, rfl, rfl⟩ := h2
          obtain ⟨hLc, rfl, rfl⟩ := h3
          have HLc := Lib.hid hLc
          clear hLc
          have kc := run_const
          go_wp2_with (first
            | ((with_reducible refine Go.Proofs.YtibgefampokfkaaDoorW.PrintWords.gate_dst (N := 96) rfl ?_); (try (refine Go.Proofs.YtibgefampokfkaaDoorW.PrintWords.gate_guard (by rfl) ?_; dsimp only)); refine Kd.R_lit k37 _ 37 ?hg (N := 96) ?hd (xs := ([] : List S37)) (inner := []) (ok := fun _ => True) (okp := fun _ => True) ?hr ?hp (fun _ hk => hk) trivial (Below.refl _ _) (Nat.le_refl _) (by simp) ?_; (case hd => rfl); (case hg => rfl); (case hr => first | (go_simp; done) | (go_simp; rfl)); (case hp => exact (Reps.none _ _)); intro v2 w5 ho2 hb2 hg_ hnew_; clear hg_ hnew_; replace ho2 := Lib.hid ho2; replace hb2 := Lib.hid hb2)
            | ((with_reducible refine Go.Proofs.YtibgefampokfkaaDoorW.PrintWords.gate_builtin (b := .append) (xs := #[.tmp 96, .tmp 97]) rfl ?_); (try (refine Go.Proofs.YtibgefampokfkaaDoorW.PrintWords.gate_guard (by rfl) ?_; dsimp only)); at_builtin; go_loud (refine Kd.R_append_rows k37 (w0 := w4) w4.heap.size rfl (.tmp 96) (.tmp 97) 24 37 (.agg #[(.int .i64 0), (.string ⟨#[]⟩), (.int .i64 0), (.int .i64 0)]) 40 rfl Tryd.underlying24 info37 rfl (by decide) (by omega) _ [] La _ _ _ (fun _ => True) (fun _ => False) rfl rfl ho2.out (Kd.C_below hC1.out hb2.out) (fun _ _ h => h) (fun _ h => h.elim) (fun _ _ => trivial) hb2.out hb2.out.size ?aL ?_); (case aL => simp; omega); intro v3 w6 ho3 hb3 hg3 hat; clear hat hg3; replace ho3 := Lib.hid ho3; replace hb3 := Lib.hid hb3)
            | ((with_reducible refine Go.Proofs.YtibgefampokfkaaDoorW.PrintWords.gate_builtin (b := .append) (xs := #[.tmp 98, .tmp 99]) rfl ?_); (try (refine Go.Proofs.YtibgefampokfkaaDoorW.PrintWords.gate_guard (by rfl) ?_; dsimp only)); at_builtin; go_loud (refine Kd.R_append_rows k37 (w0 := w4) w4.heap.size rfl (.tmp 98) (.tmp 99) 24 37 (.agg #[(.int .i64 0), (.string ⟨#[]⟩), (.int .i64 0), (.int .i64 0)]) 40 rfl Tryd.underlying24 info37 rfl (by decide) (by omega) _ ([] ++ La) Lb _ _ _ (fun _ => True) (fun _ => False) rfl rfl ho3.out (Kd.C_below hC2.out hb3.out) (fun _ _ h => h) (fun _ h => h.elim) (fun _ _ => trivial) hb3.out hb3.out.size ?aL ?_); (case aL => simp; omega); intro v4 w7 ho4 hb4 hg4 hat; clear hat hg4; rw [List.nil_append, ← HLc.out] at ho4; replace ho4 := Lib.hid ho4; replace hb4 := Lib.hid hb4; obtain ⟨Ao, co, eo⟩ := Kd.R_slice ho4.out; subst eo; have hrd := Lib.hid (Kd.R_reads' ho4.out))
            | (go_at_call 12; (with_reducible refine (same_as Lc (by omega) _ _ _ _ _ (Kd.C_below hC3.out hb4.out) hc3 hrd.out.2.2 hrd.out.2.1).mono ?_); rintro e w8 ⟨rfl, nd, rfl⟩))
          clear kc
          have hBl : Below w.heap.size w ((w7.drewN nd).alloc (.cells #[.int .u8 35] 5 (1, 2))) := bel_alloc (bel_drewN (bel_call hB.out hb4.out) nd) _
          have hCl : Kd.C k37 ((w7.drewN nd).alloc (.cells #[.int .u8 35] 5 (1, 2))) A1 La.length La := Kd.C_alloc (Kd.C_drewN (Kd.C_below hC1.out hb4.out) nd) _
          have hcl := const_cell w7 nd
          clear hrd hb4 hb3 hb2 ho2 ho3 ho4 hC1 hC2 hC3 hB
          obtain ⟨g0, hg0⟩ : ∃ g, w7.heap.size = g := ⟨_, rfl⟩
          rw [hg0] at hcl ⊢
          generalize (w7.drewN nd).alloc (.cells #[.int .u8 35] 5 (1, 2)) = wl at hBl hCl hcl ⊢
          replace hBl := Lib.hid hBl
          replace hCl := Lib.hid hCl
          replace hcl := Lib.hid hcl
          clear hg0
          obtain ⟨i0, hi0, hz0, hz1, hz2⟩ := info_parts infoByte
          go_loopw [18, 19] (fun v18 v19 wr => ∃ (x : Nat) (g c : Nat), v19 = .int .i64 x ∧ x ≤ r.size ∧ v18 = .slice (some ⟨g, 0, none⟩) (wdL r x).length c ∧ Hid (Below wl.heap.size wl wr) ∧ Hid (∀ (j : Nat) (u : Value), (Lib.byteCells (wdL r x))[j]? = some u → wr.cell? ((⟨g, 0, none⟩ : Addr).add j) = some u) ∧ Hid (c = (wdL r x).length ∨ wr.ownsRow wl.heap.size 5 1 v18 (wdL r x).length (Lib.byteCells (wdL r x)))) (fun _ v19 _ => r.size - (intOf v19).toNat)
          case atStart => exact ⟨0, g0, 1, rfl, by omega, rfl, Below.refl _ _, hcl.out, Or.inl rfl⟩
          case round =>
            obtain ⟨x, g, c, rfl, hx, rfl, hBr, hcr, hor⟩ := hrel
            have hwl := wdL_len r x
            by_cases hlt : x < r.size
            · by_cases h10 : r[x] = 10
              · have q : ((r[x].toNat : Int) != 10) = false := by rw [h10]; rfl
                have e1 := Lib.hid (wdL_skip r x hlt h10)
                clear h10
                go_wp2
                go_roundw
                case rel => exact ⟨x + 1, g, c, by go_num, by omega, by rw [e1.out], hBr, by rw [e1.out]; exact hcr, by rw [e1.out]; exact hor⟩
                case measure => simp [intOf]; omega
              · have q : ((r[x].toNat : Int) != 10) = true := bne_true_i (fun h => h10 (by rw [← UInt8.toNat_inj]; simpa using (by omega : r[x].toNat = 10)))
                have e1 := Lib.hid (wdL_add r x hlt h10)
                clear h10
                obtain ⟨o, ho⟩ : ∃ o, wdL r x = o := ⟨_, rfl⟩
                rw [ho] at hcr hor hwl e1 ⊢
                clear ho
                obtain ⟨wo, rfl⟩ : ∃ wo : World, wo = wr := ⟨_, rfl⟩
                rcases hor.out with rfl | hown
                · go_wp2_with (at_builtin; go_loud (refine wpList_append_arg _ rfl _ _ 41 rfl 5 i0 (.int .u8 0) 1 1 Tryd.underlying41 hi0 hz0 hz1 hz2 rfl (by decide) g 0 o.length o.length (Lib.byteCells o) rfl ?lo ?olds ⟨wo.heap.size, 0, none⟩ 1 1 [.int .u8 r[x].toNat] rfl rfl (cells_new wo _ 5) (by simp [Value.oneCell']) ?sp ?b1 ?b2 ?room ?grow))
                  case lo => simp [Lib.byteCells]
                  case olds =>
                    intro j u hj
                    have h1 := hcr.out j u hj
                    rw [show ((⟨g, 0, none⟩ : Addr).add j) = ⟨g, j, none⟩ from by unfold Addr.add; split <;> simp_all] at h1
                    first | exact (cell_of_alloc h1) | (rw [Nat.zero_add]; exact cell_of_alloc h1)
                  case sp => intro h; omega
                  case b1 => unfold maxLen; omega
                  case b2 => omega
                  case room => intro h; omega
                  case grow =>
                    first | intro _ v' w2 hown' hgr | intro v' w2 hown' hgr
                    have hB2 : Below wl.heap.size wl w2 := (bel_alloc hBr.out _).grown hgr (by have := hBr.out.size; simp; omega) (fun k hk => by cases hk)
                    replace hown' := own_le (base' := wl.heap.size) hown' (by have := hBr.out.size; simp; omega)
                    obtain ⟨g2, k2, rfl, -, -⟩ := hown'.form (by omega)
                    have hcc := hown'.cells (g := g2) rfl
                    have e3 : Lib.byteCells o ++ [.int .u8 r[x].toNat] = Lib.byteCells (o ++ [r[x]]) := by simp [Lib.byteCells]
                    rw [e3] at hown' hcc
                    go_wp2
                    go_roundw
                    case rel => exact ⟨x + 1, g2, k2, by go_num, by omega, by rw [e1.out]; simp, hB2, by rw [e1.out]; exact hcc, by rw [e1.out]; exact Or.inr (by simpa using hown')⟩
                    case measure => simp [intOf]; omega
                · go_wp2_with (at_builtin; go_loud (refine wpList_append_own _ rfl _ _ 41 rfl wl.heap.size 5 i0 (.int .u8 0) 1 1 Tryd.underlying41 hi0 hz0 hz1 hz2 rfl (by decide) _ _ _ rfl (hown.alloc _) ⟨wo.heap.size, 0, none⟩ 1 1 [.int .u8 r[x].toNat] rfl rfl (cells_new wo _ 5) (by simp [Value.oneCell']) ?c3 ?c4 ?c5 ?_))
                  case c3 => unfold maxLen; omega
                  case c4 => omega
                  case c5 => have := hBr.out.size; first | omega | (simp; omega)
                  intro v' w2 hown' hgr _
                  have hB2 : Below wl.heap.size wl w2 := (bel_alloc hBr.out _).grown hgr (by have := hBr.out.size; simp; omega) (fun k hk => (hown.lt k hk).1)
                  obtain ⟨g2, k2, rfl, -, -⟩ := hown'.form (by omega)
                  have hcc := hown'.cells (g := g2) rfl
                  have e3 : Lib.byteCells o ++ [.int .u8 r[x].toNat] = Lib.byteCells (o ++ [r[x]]) := by simp [Lib.byteCells]
                  rw [e3] at hown' hcc
                  go_wp2
                  go_roundw
                  case rel => exact ⟨x + 1, g2, k2, by go_num, by omega, by rw [e1.out]; simp, hB2, by rw [e1.out]; exact hcc, by rw [e1.out]; exact Or.inr (by simpa using hown')⟩
                  case measure => simp [intOf]; omega
            · have hcv := string_of_cells (P := Tryd.prog) (src := 41) (dst := 9) (c := c) Tryd.underlying41 Tryd.underlying5 Tryd.underlying9 rfl hcr.out
              have hno := wdL_no r x
              obtain ⟨o, ho⟩ : ∃ o, wdL r x = o := ⟨_, rfl⟩
              have hhd : o.head? = some 35 := by rw [← ho]; rfl
              rw [ho] at hcv hno hwl ⊢
              clear ho hcr hor
              have hos : (⟨o.toArray⟩ : ByteArray).size = o.length := rfl
              obtain ⟨S, hS⟩ : ∃ S : ByteArray, (⟨o.toArray⟩ : ByteArray) = S := ⟨_, rfl⟩
              have hSd : S.data.toList = o := by rw [← hS]
              rw [hS] at hcv hos
              clear hS
              have hlf : (⟨#[10]⟩ : ByteArray).size = 1 := rfl
              have hll : (⟨#[10, 10]⟩ : ByteArray).size = 2 := rfl
              have s1 : ((⟨#[10]⟩ : ByteArray) ++ S).size ≤ 2000000 := by rw [ByteArray.size_append]; omega
              have s2 : ((⟨#[10]⟩ : ByteArray) ++ S ++ (⟨#[10]⟩ : ByteArray)).size ≤ 2000001 := by rw [ByteArray.size_append]; omega
              have s3 : ((⟨#[10]⟩ : ByteArray) ++ S ++ (⟨#[10]⟩ : ByteArray) ++ a).size ≤ 4000000 := by rw [ByteArray.size_append]; omega
              have s4 : ((⟨#[10]⟩ : ByteArray) ++ S ++ (⟨#[10]⟩ : ByteArray) ++ a ++ (⟨#[10, 10]⟩ : ByteArray)).size ≤ 4000002 := by rw [ByteArray.size_append]; omega
              have s5 : ((⟨#[10]⟩ : ByteArray) ++ S ++ (⟨#[10]⟩ : ByteArray) ++ a ++ (⟨#[10, 10]⟩ : ByteArray) ++ S).size ≤ 7000000 := by rw [ByteArray.size_append]; omega
              have R4 : Hid (rd ((⟨#[10]⟩ : ByteArray) ++ S ++ (⟨#[10]⟩ : ByteArray) ++ a ++ (⟨#[10, 10]⟩ : ByteArray) ++ S).data.toList = (La, 0, 0)) := by
                show _ = _
                have := rd_remark HA.out hhd hno
                simp only [ByteArray.data_append, Array.toList_append, hSd, List.append_assoc, List.cons_append, List.nil_append] at this ⊢
                exact this
              have hSs : S.size ≤ 1048577 := by omega
              clear hhd hno hSd hos hlf hll
              go_wp2_with (first
                | (go_at_call 10; (with_reducible refine (read_as R4.out _ (by omega)).mono ?_); rintro e w9 ⟨A4, c4, rfl, hC4, hc4, hb9⟩; replace hBr := Lib.hid (bel_call hBr.out hb9); clear hb9; replace hC4 := Lib.hid hC4)
                | (go_at_call 12; (with_reducible refine (same_as La (by omega) _ _ _ _ _ hC4.out hc4 (Kd.C_below hCl.out hBr.out) hc1).mono ?_); rintro e w10 ⟨rfl, nd2, rfl⟩))
              go_ret
              exact ⟨rfl, bel_drewN (bel_call hBl.out hBr.out) nd2⟩
        · rw [HB.out] at h2
          rw [← HC0.out, HC.out] at h3
          simp only [Prod.mk.injEq] at h2 h3
          obtain ⟨rfl, rfl, rfl⟩ := h2
          obtain ⟨rfl, rfl, rfl⟩ := h3
          have hnb := rd_bound HB.out
          rw [size_len] at hnb
          obtain ⟨m, rfl⟩ : ∃ m : Nat, nb = m := ⟨nb.toNat, by omega⟩
          obtain ⟨q, hq⟩ : ∃ q, nls a.data.toList = q := ⟨_, rfl⟩
          rw [hq] at nl1 ⊢
          have hq1 : q ≤ 1048576 := nl1
          have hm1 : m ≤ 1048576 := by omega
          clear hq nl0 nl1 hnb
          go_wp2
          go_ret
          exact ⟨rfl, hB.out⟩
      · rw [HA.out] at hm2
        simp only [Prod.mk.injEq] at hm2
        obtain ⟨rfl, rfl, rfl⟩ := hm2
        obtain ⟨h3, -⟩ := rd_join_bad HA.out b.data.toList
        rw [← HC0.out, HC.out] at h3
        simp only [Prod.mk.injEq] at h3
        obtain ⟨rfl, rfl, rfl⟩ := h3
        go_wp2
        go_ret
        exact ⟨rfl, hB.out⟩
end Go.Proofs.YtibgefampokfkaaDoor.Sc
