/- The reference's Count, Table: walked. -/
import Derived.Test.YtoodidokjchplaaDoorRU
namespace Go.Proofs.YtoodidokjchplaaDoor.Un
open Go Go.RowKit Go.Shelf
open Go.Proofs.YtoodidokjchplaaDoor.Wk (bcell bel_drew bel_drewN bel_alloc bel_set bel_call size_len blk_cell blk_below blk_lt mk_data cells_new)
set_option linter.unusedVariables false
set_option linter.unusedSimpArgs false
set_option maxRecDepth 100000 in
set_option maxHeartbeats 4000000 in
theorem rcount_calls (s : ByteArray) (hs : s.size ≤ 1000000000) (w : World) :
    Calls Tryd.prog 42 #[.string s] w fun e w' => e = .returned (.int .i64 (cU s.data.toList : Nat)) ∧ Below w.heap.size w w' := by
  have U := Lib.hid (fun W => runits_calls s hs W)
  have hcu : cU s.data.toList = (unitsOf s.data.toList).length := rfl
  rw [hcu]
  clear hcu
  go_enter Tryd.func42, Tryd.ntmps42
  go_wp2_with (first
    | (go_at_call 62; (with_reducible refine (U.out _).mono ?_); rintro e w1 ⟨v, rfl, ho, hb⟩; obtain ⟨Ad, cp, rfl⟩ : ∃ A c, v = .slice A (unitsOf s.data.toList).length c := (by
        rcases ho.2 with ⟨h1, h2⟩ | ⟨g, cap, cur, h1, -⟩
        · exact ⟨none, 0, by rw [h1, h2]⟩
        · exact ⟨_, cap, h1⟩)))
  go_ret
  exact ⟨rfl, hb⟩
/-- The numbers in a table's text. -/
def tkT : List UInt8 → List Int → Int → Bool → List Int
  | [], al, n, inn => if inn = true then al ++ [n] else al
  | b :: r, al, n, inn => if 0 ≤ dgR b.toNat then tkT r al (wrap32 (wrap32 (n * 16) + dgR b.toNat)) true else tkT r (if inn = true then al ++ [n] else al) 0 false
def pairsT : List Int → List (Int × Int)
  | a :: b :: r => (a, b) :: pairsT r
  | _ => []
def i32s (L : List Int) : List Value := L.map fun n => .int .i32 n
theorem i32s_snoc (L : List Int) (n : Int) : i32s (L ++ [n]) = i32s L ++ [.int .i32 n] := by unfold i32s; rw [List.map_append]; rfl
theorem infoI32 : (Tryd.prog.info? 21).map (fun i => (i.zero, i.size, i.bytes)) = some (some (.int .i32 0), 1, 4) := by kernel_rfl
theorem own_len {W : World} {B e k n : Nat} {v : Value} {xs : List Value} (ho : World.ownsRow W B e k v n xs) : ∃ A c, v = .slice A n c := by
  rcases ho.2 with ⟨h1, h2⟩ | ⟨g, cap, cur, h1, -⟩
  · exact ⟨none, 0, by rw [h1, h2]⟩
  · exact ⟨_, cap, h1⟩
theorem step_own {P : Program} {ops : Array Oper} {o : Oper} {a : Act} {Q : Exit → Act → World → Prop} {K : Act → World → Prop} {w0 W : World} (base : Nat) (hw : Region.wanted o (yielded ops a.tmps) = true) (s x : Operand) (t e : TypeId) (i0 : TypeInfo) (z : Value) (size bytes : Nat)
    (ho : o.op = .call { callee := .builtin .append, args := #[s, x], argTypes := #[t, t] }) (ht : P.underlying t = some (.slice e)) (hi : P.info? e = some i0) (hz0 : i0.zero = some z) (hz1 : i0.size = size) (hz2 : i0.bytes = bytes) (hzs : z.cells.size = size) (hsz : 0 < size) (hb16 : bytes ≤ 1024)
    (v : Value) (n : Nat) (xs ys : List Value) (hs : a.eval s = v) (hx : a.eval x = .slice (some ⟨W.heap.size, 0, none⟩) 1 1) (hys : ys.length = size) (h1 : ∀ u ∈ ys, u.oneCell' = true)
    (HO : W.ownsRow base e size v n xs) (HB : Below base w0 W) (hbase : base ≤ W.heap.size) (hl : n ≤ 1000000000)
    (h : ∀ v1 w1, w1.ownsRow base e size v1 (n + 1) (xs ++ ys) → Below base w0 w1 → K (a.put o.dst v1) w1) :
    if Region.wanted o (yielded ops a.tmps) = true then Oper.wp P o a (W.alloc (.cells ys.toArray e)) K Q else K (a.put o.dst undef) (W.alloc (.cells ys.toArray e)) := by
  rw [if_pos hw]
  refine wp_append_own _ s x t ho base e i0 z size bytes ht hi hz0 hz1 hz2 hzs hsz v n xs hs (HO.alloc _) ⟨W.heap.size, 0, none⟩ 1 1 ys hx (by rw [hys]; omega) (cells_new W ys e) h1 (by unfold maxLen; omega) ?_ (by simp; omega) ?_
  · have : (n + 1) * bytes ≤ (n + 1) * 1024 := Nat.mul_le_mul_left _ hb16
    omega
  · intro v1 w1 hown hg _
    exact h v1 w1 hown ((HB.alloc hbase _).grown hg (by simp; omega) (fun k hk => (HO.lt k hk).1))
theorem own_mono {W : World} {B B' e k n : Nat} {v : Value} {xs : List Value} (h : World.ownsRow W B e k v n xs) (hB : B' ≤ B) : World.ownsRow W B' e k v n xs := by
  refine ⟨h.1, ?_⟩
  rcases h.2 with h2 | ⟨g, cap, cur, rfl, hg, r⟩
  · exact .inl h2
  · exact .inr ⟨g, cap, cur, rfl, Nat.le_trans hB hg, r⟩
/-- The cells of an own row of int32s. -/
theorem own_i32 {W : World} {B e : Nat} {A : Option Addr} {n c : Nat} {L : List Int} (h : World.ownsRow W B e 1 (.slice A n c) n (i32s L)) (hn : n = L.length) : ∀ j (hj : j < L.length), ∃ g, A = some ⟨g, 0, none⟩ ∧ W.cell? ⟨g, j, none⟩ = some (.int .i32 L[j]) := by
  intro j hj
  rcases h.2 with ⟨h1, h0⟩ | ⟨g, cap, cur, h1, hg, hh, hc, _, hsz, htk⟩
  · omega
  · simp only [Value.slice.injEq] at h1
    obtain ⟨rfl, -, rfl⟩ := h1
    refine ⟨g, rfl, ?_⟩
    rw [blk_cell hh]
    have e1 : (i32s L)[j]? = some (.int .i32 L[j]) := by unfold i32s; simp [hj]
    rw [← e1, ← htk, List.getElem?_take_of_lt (by omega), Array.getElem?_toList]
def rgs (L : List (Int × Int)) : List Value := L.flatMap fun r => [.int .i32 r.1, .int .i32 r.2]
theorem rgs_snoc (L : List (Int × Int)) (r : Int × Int) : rgs (L ++ [r]) = rgs L ++ [.int .i32 r.1, .int .i32 r.2] := by unfold rgs; rw [List.flatMap_append]; simp
theorem infoRg : (Tryd.prog.info? 110).map (fun i => (i.zero, i.size, i.bytes)) = some (some (.agg #[.int .i32 0, .int .i32 0]), 2, 8) := by kernel_rfl
theorem pairs_step {L : List Int} {i : Nat} (h : i + 1 < L.length) : pairsT (L.drop i) = (L[i], L[i + 1]) :: pairsT (L.drop (i + 2)) := by
  rw [List.drop_eq_getElem_cons (show i < L.length by omega), List.drop_eq_getElem_cons h]
  rfl
theorem pairs_end {L : List Int} {i : Nat} (h : L.length ≤ i + 1) : pairsT (L.drop i) = [] := by
  match e : L.drop i with
  | [] => rfl
  | [a] => rfl
  | a :: b :: r =>
    have := congrArg List.length e
    rw [List.length_drop] at this
    simp at this
    omega
set_option maxRecDepth 100000 in
set_option maxHeartbeats 4000000 in
theorem rtable_calls (s : ByteArray) (hs : s.size ≤ 1000000) (w : World) :
    Calls Tryd.prog 79 #[.string s] w fun e w' => ∃ v, e = .returned v ∧ World.ownsRow w' w.heap.size 110 2 v (pairsT (tkT s.data.toList [] 0 false)).length (rgs (pairsT (tkT s.data.toList [] 0 false))) ∧ Below w.heap.size w w' := by
  obtain ⟨i0, hi0, hz0, hz1, hz2⟩ := info_parts infoI32
  have HI := Lib.hid (show Tryd.prog.info? 21 = some i0 ∧ i0.zero = some (.int .i32 0) ∧ i0.size = 1 ∧ i0.bytes = 4 from ⟨hi0, hz0, hz1, hz2⟩)
  clear hi0 hz0 hz1 hz2
  obtain ⟨l, hl⟩ : ∃ l, s.data.toList = l := ⟨_, rfl⟩
  have hlen : l.length = s.size := by rw [← hl]; exact size_len s
  rw [hl]
  obtain ⟨T, hT⟩ : ∃ T, tkT l [] 0 false = T := ⟨_, rfl⟩
  rw [hT]
  obtain ⟨i9, hi0, hz0, hz1, hz2⟩ := info_parts infoRg
  have HI2 := Lib.hid (show Tryd.prog.info? 110 = some i9 ∧ i9.zero = some (.agg #[.int .i32 0, .int .i32 0]) ∧ i9.size = 2 ∧ i9.bytes = 8 from ⟨hi0, hz0, hz1, hz2⟩)
  clear hi0 hz0 hz1 hz2
  replace hl := Lib.hid hl
  replace hlen := Lib.hid hlen
  replace hT := Lib.hid hT
  go_enter Tryd.func79, Tryd.ntmps79
  go_wp2_with fail
  go_loopw [3, 4, 5, 6] (fun v3 v4 v5 v6 wr => ∃ (i : Nat) (al : List Int) (n : Int) (inn : Bool), v6 = .int .i64 i ∧ v4 = .int .i32 n ∧ v5 = .bool inn ∧ i ≤ s.size + 1 ∧ al.length ≤ i ∧ Hid ((i ≤ s.size → tkT (l.drop i) al n inn = T) ∧ (i = s.size + 1 → al = T)) ∧ Hid (World.ownsRow wr w.heap.size 21 1 v3 al.length (i32s al)) ∧ Hid (Below w.heap.size w wr)) (fun v3 v4 v5 v6 _ => s.size + 1 - (intOf v6).toNat)
  case atStart => exact ⟨0, [], 0, false, rfl, rfl, rfl, by omega, by simp, ⟨fun _ => hT.out, fun h => by omega⟩, World.ownsRow_nil _ _ _ _, Below.refl _ _⟩
  case round =>
    obtain ⟨i, al, n, inn, rfl, rfl, rfl, hi, hal, ht, ho, hb⟩ := hrel
    obtain ⟨Ad, cp, rfl⟩ := own_len ho.out
    have hiw : IntKind.i64.wrap ((i : Int) + 1) = (i : Int) + 1 := w64_id (by omega)
    by_cases hle : i ≤ s.size
    · have hle' : (i : Int) ≤ s.size := by omega
      by_cases hlt : i < s.size
      · have hlt' : (i : Int) < s.size := by omega
        have hby : 0 ≤ (s[i].toNat : Int) ∧ (s[i].toNat : Int) < 256 := by have := s[i].toNat_lt; omega
        have DG := Lib.hid (fun W => rdigit_calls (s[i].toNat : Int) hby W)
        have hdr : l.drop i = s[i] :: l.drop (i + 1) := by
          have hp : i < l.length := by rw [hlen.out]; exact hlt
          rw [List.drop_eq_getElem_cons hp]
          congr 1
          have := hl.out
          subst this
          rfl
        have ht' := ht.out.1 hle
        rw [hdr] at ht'
        unfold tkT at ht'
        obtain ⟨d, hd⟩ : ∃ d, dgR (s[i].toNat : Int) = d := ⟨_, rfl⟩
        rw [hd] at DG ht'
        clear hby hdr hd
        by_cases hd0 : 0 ≤ d
        · rw [if_pos hd0] at ht'
          have HT2 := Lib.hid ht'
          clear ht'
          go_wp2_with (first
            | (go_at_call 94; (with_reducible refine (DG.out _).mono ?_); rintro e w1 ⟨rfl, rfl⟩))
          refine ⟨⟨i + 1, al, _, true, by go_num, rfl, rfl, by omega, by omega, ⟨fun h => HT2.out, fun h => by omega⟩, ho, hb⟩, by simp [intOf]; omega⟩
        · rw [if_neg hd0] at ht'
          have HT2 := Lib.hid ht'
          have hd1 : d < 0 := by omega
          clear ht' hd0
          cases inn
          · go_wp2_with (first
              | (go_at_call 94; (with_reducible refine (DG.out _).mono ?_); rintro e w1 ⟨rfl, rfl⟩))
            refine ⟨⟨i + 1, al, 0, false, by go_num, rfl, rfl, by omega, by omega, ⟨fun h => (by have := HT2.out; exact this), fun h => by omega⟩, ho, hb⟩, by simp [intOf]; omega⟩
          · go_wp2_with (first
              | (go_at_call 94; (with_reducible refine (DG.out _).mono ?_); rintro e w1 ⟨rfl, rfl⟩)
              | (at_builtin; go_loud (refine wpList_append_own _ rfl _ _ 111 rfl w.heap.size 21 i0 (.int .i32 0) 1 4 Tryd.underlying111 HI.out.1 HI.out.2.1 HI.out.2.2.1 HI.out.2.2.2 rfl (by decide) _ _ _ rfl (World.ownsRow.alloc ho.out _) ⟨w1.heap.size, 0, none⟩ 1 1 [.int .i32 n] rfl rfl ?c1 ?c2 ?c3 ?c4 ?c5 ?_)))
            case c1 =>
              intro j u hj
              exact cells_new w1 _ 21 j u hj
            case c2 => simp [Value.oneCell']
            case c3 => unfold maxLen; omega
            case c4 => omega
            case c5 => have h1 := hb.out.size; simp at h1 ⊢; omega
            intro v' w2 hown' hgrow _
            have hb3 := Lib.hid ((bel_alloc hb.out _).grown hgrow (by have h1 := hb.out.size; simp at h1 ⊢; omega) (fun k hk => (ho.out.lt k hk).1))
            have ho3 : Hid (World.ownsRow w2 w.heap.size 21 1 v' (al ++ [n]).length (i32s (al ++ [n]))) := by
              show World.ownsRow _ _ _ _ _ _ _
              rw [i32s_snoc, List.length_append]
              exact hown'
            clear hown' hgrow
            go_wp2_with fail
            go_roundw
            case rel => exact ⟨i + 1, al ++ [n], 0, false, by go_num, rfl, rfl, by omega, by simp; omega, ⟨fun h => (by have := HT2.out; exact this), fun h => by omega⟩, ho3, hb3⟩
            case measure => simp [intOf]; omega
      · have hie : i = s.size := by omega
        have hdr : l.drop i = [] := List.drop_eq_nil_of_le (by rw [hlen.out]; omega)
        have ht' := ht.out.1 hle
        rw [hdr] at ht'
        unfold tkT at ht'
        have HT2 := Lib.hid ht'
        clear ht' hdr
        cases inn
        · go_wp2_with fail
          refine ⟨⟨i + 1, al, 0, false, by go_num, rfl, rfl, by omega, by omega, ⟨fun h => by omega, fun h => (by have := HT2.out; exact this)⟩, ho, hb⟩, by simp [intOf]; omega⟩
        · go_wp2_with (at_builtin; go_loud (refine wpList_append_own _ rfl _ _ 111 rfl w.heap.size 21 i0 (.int .i32 0) 1 4 Tryd.underlying111 HI.out.1 HI.out.2.1 HI.out.2.2.1 HI.out.2.2.2 rfl (by decide) _ _ _ rfl (World.ownsRow.alloc ho.out _) ⟨wr.heap.size, 0, none⟩ 1 1 [.int .i32 n] rfl rfl ?c1 ?c2 ?c3 ?c4 ?c5 ?_))
          try
            case c1 =>
              intro j u hj
              exact cells_new wr _ 21 j u hj
          case c2 => simp [Value.oneCell']
          case c3 => unfold maxLen; omega
          case c4 => omega
          case c5 => have h1 := hb.out.size; simp at h1 ⊢; omega
          intro v' w2 hown' hgrow _
          have hb3 := Lib.hid ((bel_alloc hb.out _).grown hgrow (by have h1 := hb.out.size; simp at h1 ⊢; omega) (fun k hk => (ho.out.lt k hk).1))
          have ho3 : Hid (World.ownsRow w2 w.heap.size 21 1 v' (al ++ [n]).length (i32s (al ++ [n]))) := by
            show World.ownsRow _ _ _ _ _ _ _
            rw [i32s_snoc, List.length_append]
            exact hown'
          clear hown' hgrow
          go_wp2_with fail
          go_roundw
          case rel => exact ⟨i + 1, al ++ [n], 0, false, by go_num, rfl, rfl, by omega, by simp; omega, ⟨fun h => by omega, fun h => (by have := HT2.out; exact this)⟩, ho3, hb3⟩
          case measure => simp [intOf]; omega
    · have hie : i = s.size + 1 := by omega
      have hal2 : al = T := ht.out.2 hie
      subst hal2
      have hsn : ((i : Int) ≤ s.size) = False := eq_false (by omega)
      have hN : al.length ≤ 1000001 := by omega
      replace hie := Lib.hid hie
      obtain ⟨WA, rfl⟩ : ∃ WA : World, WA = wr := ⟨_, rfl⟩
      have hcell := own_i32 ho.out rfl
      have HC := Lib.hid hcell
      have HBW := Lib.hid hb.out.size
      clear hcell hle ht
      go_wp2_with fail
      go_loopw [8, 9] (fun v8 v9 wr => ∃ (k : Nat) (out : List (Int × Int)), v9 = .int .i64 k ∧ k ≤ al.length + 1 ∧ out.length ≤ k ∧ Hid (pairsT al = out ++ pairsT (al.drop k)) ∧ Hid (World.ownsRow wr WA.heap.size 110 2 v8 out.length (rgs out)) ∧ Hid (Below WA.heap.size WA wr)) (fun v8 v9 _ => al.length + 2 - (intOf v9).toNat)
      case atStart => exact ⟨0, [], rfl, by omega, by simp, rfl, World.ownsRow_nil _ _ _ _, Below.refl _ _⟩
      case round =>
        obtain ⟨k, out, rfl, hk, hout, hp, ho2, hb2⟩ := hrel
        obtain ⟨Ae, ce, rfl⟩ := own_len ho2.out
        have kw1 : IntKind.i64.wrap ((k : Int) + 1) = (k : Int) + 1 := w64_id (by omega)
        have kw2 : IntKind.i64.wrap ((k : Int) + 2) = (k : Int) + 2 := w64_id (by omega)
        by_cases hlt : k + 1 < al.length
        · have hlt' : (k : Int) + 1 < al.length := by omega
          have hlk : (k : Int) < al.length := by omega
          have h0k : (0 : Int) ≤ (k : Int) + 1 := by omega
          have hkn : ((k : Int) + 1).toNat = k + 1 := by omega
          obtain ⟨g, hg, c0⟩ := HC.out k (by omega)
          obtain ⟨g', hg', c1⟩ := HC.out (k + 1) hlt
          subst hg
          cases hg'
          have hps := pairs_step hlt
          obtain ⟨x, hx⟩ : ∃ x, al[k] = x := ⟨_, rfl⟩
          obtain ⟨y, hy⟩ : ∃ y, al[k + 1] = y := ⟨_, rfl⟩
          rw [hx] at c0 hps
          rw [hy] at c1 hps
          have hp2 : pairsT al = (out ++ [(x, y)]) ++ pairsT (al.drop (k + 2)) := by rw [hp.out, hps, List.append_assoc]; rfl
          have HP2 := Lib.hid hp2
          have C0 := cell_below c0 hb2.out
          have C1 := cell_below c1 hb2.out
          have H0 : wr.drew.cell? ⟨g, k, none⟩ = some (.int .i32 x) := C0
          have H1 : wr.drew.cell? ⟨g, k + 1, none⟩ = some (.int .i32 y) := C1
          have HO2 : Hid (World.ownsRow wr.drew WA.heap.size 110 2 (.slice Ae out.length ce) out.length (rgs out)) := ho2
          have HB2 : Hid (Below WA.heap.size WA wr.drew) := Lib.hid (bel_drew hb2.out)
          have c0K := c0
          have c1K := c1
          clear hps hx hy hp2 c0 c1 C0 C1 ho2 hb2 hp
          go_upto_region 21 with fail
          go_region_held3 (fun w' => w'.cell? ⟨g, k, none⟩ = some (.int .i32 x) ∧ w'.cell? ⟨g, k + 1, none⟩ = some (.int .i32 y))
            ((first | exact ⟨H0, H1⟩ | exact ⟨cell_below H0 (bel_alloc (Below.refl _ _) _), cell_below H1 (bel_alloc (Below.refl _ _) _)⟩ | exact ⟨H4, H5⟩))
            (first
            | (refine step_own (w0 := WA) (W := wr.drew) WA.heap.size (by rfl) (.tmp 42) (.tmp 53) 98 110 i9 (.agg #[.int .i32 0, .int .i32 0]) 2 8 rfl Tryd.underlying98 HI2.out.1 HI2.out.2.1 HI2.out.2.2.1 HI2.out.2.2.2 rfl (by decide) (by decide) _ _ _ [.int .i32 x, .int .i32 y] rfl rfl rfl (by simp [Value.oneCell']) HO2.out HB2.out HB2.out.size (by omega) ?_; intro v1 wz hown hbz; have H4 := cell_below c0K hbz; have H5 := cell_below c1K hbz))
          have ho3 : Hid (World.ownsRow wz WA.heap.size 110 2 v1 (out ++ [(x, y)]).length (rgs (out ++ [(x, y)]))) := by
            show World.ownsRow _ _ _ _ _ _ _
            rw [rgs_snoc, List.length_append]
            exact hown
          replace hbz := Lib.hid hbz
          clear hown H4 H5 H0 H1 HO2 HB2
          go_wp2_with fail
          go_roundw
          case rel => exact ⟨k + 2, out ++ [(x, y)], by go_num, by omega, by simp; omega, HP2.out, ho3, hbz⟩
          case measure => simp [intOf]; omega
        · have hge : (al.length : Int) ≤ (k : Int) + 1 := by omega
          have hfin : pairsT al = out := by rw [hp.out, pairs_end (by omega), List.append_nil]
          have HFin := Lib.hid hfin
          clear hfin hp
          go_wp2_with fail
          go_ret
          exact ⟨_, rfl, by rw [HFin.out]; exact own_mono ho2.out HBW.out, bel_call hb.out hb2.out⟩
end Go.Proofs.YtoodidokjchplaaDoor.Un
