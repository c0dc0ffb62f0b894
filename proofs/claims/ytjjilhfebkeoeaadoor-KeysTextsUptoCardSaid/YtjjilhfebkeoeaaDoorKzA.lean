/- KeysSplits: the law's walk. -/
import Derived.Test.YtjjilhfebkeoeaaDoorKyX
import Derived.Deep.RegionHeld3
import Derived.Laws.AppendOwnNone
import Derived.Test.YtjjilhfebkeoeaaDoorPKyx2
import Derived.Maps.AppendAt
import Derived.Laws.AppendOwn
namespace Go.Proofs.YtjjilhfebkeoeaaDoor.Ky
open Go Go.RowKit Go.Proofs.YtjjilhfebkeoeaaDoor.PKy
open Go.Proofs.YtjjilhfebkeoeaaDoorW.PrintWords (bt rdOf Kd Drawn0 Reps Aside0)
open Go.Proofs.YtjjilhfebkeoeaaDoor.Wk (bcell bel_drew bel_drewN bel_alloc bel_set bel_call size_len mk_data beq_true_i bne_true_i bne_false_i beq_false_i drop_cons var_below blk_alloc blk_below blk_drewN blk_cell blk_frozen blk_far blk_set blk_lt own_slice own_below cells_new)
set_option linter.unusedVariables false
set_option linter.unusedSimpArgs false





theorem ownS_Cn {W : World} {B n : Nat} {v : Value} {L : List (List UInt8)} (h : OwnS W B v L) (hn : L.length = n) : ∃ A c, v = .slice A n c ∧ n ≤ c ∧ Kd.C Kd.string W A n (L.map ByteS) := by subst hn; exact ownS_C h
theorem run_each (n : Nat) : ∀ l : List UInt8, l.length ≤ n → ∀ q ∈ (run true l).1, q.2 ≠ [] ∧ rd true q.2 = (q.1, q.2.length) := by
  induction n with
  | zero =>
    intro l h q hq
    have : l = [] := List.eq_nil_of_length_eq_zero (by omega)
    subst this; simp [run, runN] at hq
  | succ n ih =>
    intro l h q hq
    by_cases h0 : (rd true l).2 = 0
    · rw [run_stop h0] at hq; simp at hq
    · have hle := rd_le true l
      rw [run_go h0] at hq
      simp only [List.mem_cons] at hq
      rcases hq with rfl | hq
      · refine ⟨?_, ?_⟩
        · simp only; intro e
          have := congrArg List.length e
          rw [List.length_take, List.length_nil] at this; omega
        · simp only [List.length_take]
          rw [rd_take l, Nat.min_eq_left hle]
      · exact ih (l.drop (rd true l).2) (by simp only [List.length_drop]; omega) q hq
theorem keys_one {p : List UInt8} {k : Key} (hn : p ≠ []) (h : rd true p = (k, p.length)) : keysOf true p = [k] := by
  have hp : (rd true p).2 ≠ 0 := rd_pos p hn
  unfold keysOf
  rw [run_go hp, h]
  simp [run, runN]
theorem pieces_flat (l : List UInt8) : (piecesOf true l).flatten = l := by
  have := run_join l.length true l (Nat.le_refl _)
  rw [run_true, List.append_nil] at this
  exact this
theorem pk_len (l : List UInt8) : (keysOf true l).length = (piecesOf true l).length := by simp [keysOf, piecesOf]
/-- The offset of a piece. -/
def offs (l : List UInt8) (x : Nat) : Nat := ((piecesOf true l).take x).flatten.length
theorem piece_at {l : List UInt8} {x : Nat} (hx : x < (piecesOf true l).length) (hk : x < (keysOf true l).length) :
    (piecesOf true l)[x] ≠ [] ∧ keysOf true (piecesOf true l)[x] = [(keysOf true l)[x]] ∧ (l.drop (offs l x)).take (piecesOf true l)[x].length = (piecesOf true l)[x] ∧ offs l (x + 1) = offs l x + (piecesOf true l)[x].length ∧ offs l (x + 1) ≤ l.length := by
  have hr : x < (run true l).1.length := by unfold piecesOf at hx; rwa [List.length_map] at hx
  have hq := run_each l.length l (Nat.le_refl _) (run true l).1[x] (List.getElem_mem hr)
  have e1 : (piecesOf true l)[x] = (run true l).1[x].2 := by simp [piecesOf]
  have e2 : (keysOf true l)[x] = (run true l).1[x].1 := by simp [keysOf]
  have hf := pieces_flat l
  obtain ⟨a, ha⟩ : ∃ a, ((piecesOf true l).take x).flatten = a := ⟨_, rfl⟩
  obtain ⟨b, hb⟩ : ∃ b, (piecesOf true l)[x] = b := ⟨_, rfl⟩
  obtain ⟨c, hc⟩ : ∃ c, ((piecesOf true l).drop (x + 1)).flatten = c := ⟨_, rfl⟩
  have hsplit : l = a ++ (b ++ c) := by
    rw [← ha, ← hb, ← hc, ← List.flatten_cons, ← List.drop_eq_getElem_cons hx, ← List.flatten_append, List.take_append_drop, hf]
  have ho : offs l (x + 1) = offs l x + (piecesOf true l)[x].length := by
    unfold offs
    rw [List.take_succ_eq_append_getElem hx, List.flatten_append, List.length_append]; simp
  refine ⟨by rw [e1]; exact hq.1, by rw [e1, e2]; exact keys_one hq.1 hq.2, ?_, ho, ?_⟩
  · unfold offs
    rw [ha, hb, hsplit, List.drop_left, List.take_left]
  · rw [ho, hb]
    have := congrArg List.length hsplit
    rw [List.length_append, List.length_append] at this
    unfold offs; rw [ha]; omega
theorem piece_at' {l : List UInt8} {P : List (List UInt8)} {K : List Key} {x : Nat} (hP : piecesOf true l = P) (hK : keysOf true l = K) (hx : x < P.length) (hk : x < K.length) :
    P[x] ≠ [] ∧ keysOf true P[x] = [K[x]] ∧ (l.drop (offs l x)).take P[x].length = P[x] ∧ offs l (x + 1) = offs l x + P[x].length ∧ offs l (x + 1) ≤ l.length := by
  subst hP hK; exact piece_at hx hk
theorem fed_one (s : ByteArray) (hs : s.size ≤ 1000000000) (g c0 : Nat) (hc : 1 ≤ c0) (w : World) (hT : Tb w) (hg : w.heap[g]? = some (.cells #[.string s] 9 (0, 0))) :
    Calls Tryd.prog 17 #[.slice (some ⟨g, 0, none⟩) 1 c0] w (FPost w (keysOf false s.data.toList) (held false s.data.toList)) := by
  have hcat : cat [s] = s.data.toList := by simp [cat]
  have h := fed_calls (some ⟨g, 0, none⟩) c0 [s] w hT ⟨rfl, by simp, fun _ => ⟨_, rfl, fun j p hp => by
    match j, hp with
    | 0, hp =>
      simp only [List.getElem?_cons_zero, Option.some.injEq] at hp
      subst hp
      refine ⟨[.string s], rfl, rfl, fun i u hu => ?_⟩
      match i, hu with
      | 0, hu =>
        simp only [List.getElem?_cons_zero, Option.some.injEq] at hu
        subst hu
        have ha : (⟨g, 0, none⟩ : Addr).add (0 * (Kd.string).sz + 0) = ⟨g, 0, none⟩ := by show (⟨g, 0, none⟩ : Addr).add 0 = _; unfold Addr.add; split <;> simp_all
        rw [ha]; exact blk_cell hg 0
      | i + 1, hu => simp at hu
    | j + 1, hp => simp at hp⟩⟩ hc (by rw [hcat, size_len]; exact hs) (by simp)
  rw [hcat] at h
  exact h
theorem take_C {W : World} {A : Option Addr} {n m : Nat} {K K0 K1 : List Key} (h : Kd.C k50 W A n (K.map toS)) (hp : K = K0 ++ K1) (hm : K0.length = m) : Kd.C k50 W A m (K0.map toS) := by
  have hn : (K.map toS).length = n := h.1
  rw [← hn] at h
  have := Kd.C_take (m := m) h (by rw [hp]; simp; omega)
  have e : (K.map toS).take m = K0.map toS := by rw [hp, List.map_append, List.take_append_of_le_length (by simp; omega), List.take_of_length_le (by simp; omega)]
  rw [e, List.length_map, hm] at this
  exact this
theorem C_one {W : World} {ad : Addr} {n : Nat} {xs : List S50} {x : Nat} {p : S50} (h : Kd.C k50 W (some ad) n xs) (hp : xs[x]? = some p) : Kd.C k50 W (some (ad.add (x * 6))) 1 [p] := by
  have hx : x < xs.length := (List.getElem?_eq_some_iff.mp hp).1
  refine ⟨rfl, by decide, fun _ => ⟨_, rfl, fun j q hq => ?_⟩⟩
  match j, hq with
  | 0, hq =>
    simp only [List.getElem?_cons_zero, Option.some.injEq] at hq
    subst hq
    obtain ⟨ad', ea, hh⟩ := h.2.2 (by rw [← h.1]; omega)
    cases ea
    obtain ⟨c, h1, h2, h3⟩ := hh x p hp
    refine ⟨c, h1, h2, fun i u hu => ?_⟩
    rw [Addr.add_add]
    have := h3 i u hu
    show W.cell? (ad.add (x * 6 + (0 * 6 + i))) = some u
    rw [show x * 6 + (0 * 6 + i) = x * 6 + i from by omega]; exact this
  | j + 1, hq => simp at hq
theorem C_one' {W : World} {ad : Addr} {n : Nat} {xs : List S50} {x : Nat} {k : Key} (h : Kd.C k50 W (some ad) n xs) (hp : xs[x]? = some (toS k)) : Kd.C k50 W (some (ad.add (x * 6))) 1 ([k].map toS) := C_one h hp
theorem offs_all (l : List UInt8) : offs l (piecesOf true l).length = l.length := by
  unfold offs; rw [List.take_length, pieces_flat]
theorem keys_pre (l : List UInt8) : keysOf true l = keysOf false l ++ keysOf true (held false l) := by
  have := keys_app true l []
  rwa [List.append_nil, List.append_nil] at this
theorem held_suf (l : List UInt8) : ∃ t, l = t ++ held false l := ⟨_, (run_join l.length false l (Nat.le_refl _)).symm⟩
set_option maxHeartbeats 8000000 in
set_option maxRecDepth 1000000 in
theorem splits_calls (s : ByteArray) (hs : s.size ≤ 100000000) (w : World) (hT : Tb w) : Calls Tryd.prog 6 #[.string s] w fun e w' => e = .returned (.bool true) ∧ Below w.heap.size w w' := by
  have HT := Lib.hid hT
  have hs' : s.size ≤ 1000000000 := by omega
  obtain ⟨K, hK⟩ : ∃ K, keysOf true s.data.toList = K := ⟨_, rfl⟩
  obtain ⟨P, hP⟩ : ∃ P, piecesOf true s.data.toList = P := ⟨_, rfl⟩
  obtain ⟨n, hn⟩ : ∃ n, P.length = n := ⟨_, rfl⟩
  have hKn : K.length = n := by rw [← hK, ← hn, ← hP]; exact pk_len _
  have hnb : n ≤ 100000000 := by
    have := keys_len true s.data.toList
    rw [hK, hKn, size_len] at this; omega
  have HK := Lib.hid hK
  have HP := Lib.hid hP
  have HN := Lib.hid hn
  have HKN := Lib.hid hKn
  have qn : ((n : Int) != (n : Int)) = false := bne_false_i rfl
  clear hT hK hP hn hKn
  go_enter Tryd.func6, Tryd.ntmps6
  go_wp2_with (first
    | (go_at_call 16; (with_reducible refine (fixed_calls _ HT.out).mono ?_); rintro e w1 ⟨rfl, hb⟩; have HB1 := Lib.hid hb; clear hb)
    | (go_at_call 14; (with_reducible refine (decode_all s hs' _ (HT.out.below HB1.out)).mono ?_); rintro e w2 ⟨v, rfl, ho, hb⟩; rw [HK.out] at ho; obtain ⟨A, c, rfl, hc, hC⟩ := own_Cn ho HKN.out; have HB2 := Lib.hid (bel_call HB1.out hb); have HC := Lib.hid hC; clear ho hC hb)
    | (go_at_call 23; (with_reducible refine (split_calls s hs' _ (HT.out.below HB2.out)).mono ?_); rintro e w3 ⟨v, rfl, ho, hb⟩; rw [HP.out] at ho; obtain ⟨A3, c3, rfl, hc3, hC3⟩ := ownS_Cn ho HN.out; have HB3 := Lib.hid (bel_call HB2.out hb); have HC2 := Lib.hid (Ck_below HC.out hb); have HC3 := Lib.hid hC3; clear ho hC3 hb))
  go_loopw [5, 6] (fun v5 v6 wr => ∃ x : Nat, v6 = .int .i64 x ∧ v5 = .int .i64 (offs s.data.toList x : Nat) ∧ x ≤ n ∧ Hid (Below w3.heap.size w3 wr)) (fun _ v6 _ => n - (intOf v6).toNat)
  case atStart => exact ⟨0, rfl, rfl, Nat.zero_le _, Below.refl _ _⟩
  case round =>
    obtain ⟨x, rfl, rfl, hx, hB⟩ := hrel
    by_cases hlt : x < n
    · have hxP : x < P.length := by rw [HN.out]; exact hlt
      have hxK : x < K.length := by rw [HKN.out]; exact hlt
      obtain ⟨p1, p2, p3, p4, p5⟩ := piece_at' HP.out HK.out hxP hxK
      obtain ⟨ad, ea, hcell⟩ := Kd.at_string (Cs_below HC3.out hB.out) (x : Int) (by omega) (by omega)
      subst ea
      have hrd : rdOf ByteArray.empty (P.map ByteS) (x : Int) = ByteS P[x] := by
        unfold rdOf; rw [Int.toNat_natCast, List.getD_eq_getElem?_getD, List.getElem?_map, List.getElem?_eq_getElem hxP]; rfl
      rw [hrd, Int.toNat_natCast] at hcell
      obtain ⟨adK, eK, hcK⟩ := HC2.out.2.2 (by omega)
      subst eK
      have hxk : Hid ((K.map toS)[x]? = some (toS K[x])) := (by rw [List.getElem?_map, List.getElem?_eq_getElem hxK]; rfl : (K.map toS)[x]? = some (toS K[x]))
      obtain ⟨pc, hpc⟩ : ∃ pc, P[x] = pc := ⟨_, rfl⟩
      obtain ⟨kx, hkx⟩ : ∃ kx, K[x] = kx := ⟨_, rfl⟩
      obtain ⟨o, ho⟩ : ∃ o, offs s.data.toList x = o := ⟨_, rfl⟩
      obtain ⟨Q, hQ⟩ : ∃ Q, ByteS pc = Q := ⟨_, rfl⟩
      have hQd : Q.data.toList = pc := by rw [← hQ]; exact held_B pc
      have hQs : pc.length = Q.size := by rw [← hQd, size_len]
      rw [hpc] at hcell p1 p2 p3 p4
      rw [hkx] at hxk p2
      rw [hQ] at hcell
      rw [ho] at p3 p4
      rw [ho]
      rw [size_len] at p5
      rw [hQs] at p3 p4
      have hQ0 : 0 < Q.size := by rw [← hQs]; exact List.length_pos_iff.mpr p1
      obtain ⟨e1, e2, e3⟩ := not_empty hQ0
      have hoe : o + Q.size ≤ s.size := by omega
      have hQb : Q.size ≤ 1000000000 := by omega
      have hext : s.extract o (o + Q.size) = Q := ext_data (by rw [mid_ext, p3, hQd])
      have HQ1 := Lib.hid (hQd ▸ p2 : keysOf true Q.data.toList = [kx])
      have HO4 := Lib.hid p4
      have q1 : decide ((s.size : Int) - o < Q.size) = false := by rw [decide_eq_false_iff_not]; omega
      have oi : (o : Int) + Q.size ≤ s.size := by omega
      have nn : ((o : Int) + Q.size).toNat = o + Q.size := by omega
      have cx : ¬ c = x := by omega
      have hcx : 1 ≤ c - x := by omega
      have xi : (x : Int) < n := by omega
      have xc : (x : Int) + 1 ≤ c := by omega
      clear p1 p2 p3 p4 p5 hrd hcK hpc hkx ho hQ hQd hQs hxP hxK
      have b0 : 0 ≤ (o : Int) + Q.size := by omega
      have b1 : (o : Int) ≤ (o : Int) + Q.size := by omega
      have b2 : 0 ≤ (x : Int) + 1 := by omega
      have n2 : ((x : Int) + 1).toNat = x + 1 := by omega
      have w1 : IntKind.i64.wrap ((s.size : Int) - o) = (s.size : Int) - o := by rw [IntKind.wrap_i64]; omega
      have w2 : IntKind.i64.wrap ((o : Int) + Q.size) = (o : Int) + Q.size := by rw [IntKind.wrap_i64]; omega
      have w3 : IntKind.i64.wrap ((x : Int) + 1) = (x : Int) + 1 := by rw [IntKind.wrap_i64]; omega
      go_wp2
      go_region_held3 (fun w' => w'.cell? (ad.add x) = some (.string Q)) (first | exact z1 | exact y1 | go_keep)
        (first
          | (go_at_call 14; (with_reducible refine (decode_all Q hQb _ (HT.out.below (bel_drew (bel_call HB3.out hB.out)))).mono ?_); rintro e wz ⟨v, rfl, ho, hb⟩; rw [HQ1.out] at ho; obtain ⟨A5, c5, rfl, hc5, hC5⟩ := own_Cn (n := 1) ho rfl; have z1 := (hb.cell (World.block_lt_of_cell? _ _ hcell)).trans hcell; have HBz := Lib.hid (bel_call (bel_drew hB.out) hb))
          | (go_at_call 18; (with_reducible refine (same_n [kx] 1 rfl (by decide) A5 (some (adK.add (x * 6))) c5 (c - x) _ hC5 hc5 (C_one' (Ck_below HC2.out HBz.out) hxk.out) hcx).mono ?_); rintro e wy ⟨rfl, nd, rfl⟩; have y1 : (wz.drewN nd).cell? (ad.add x) = some (.string Q) := z1))
      clear w1 w2 w3
      go_wp2
      go_roundw
      case rel => exact ⟨x + 1, by go_num, by rw [HO4.out]; go_num, by omega, Lib.hid (bel_drewN HBz.out _)⟩
      all_goals (try go_num)
      all_goals (show n - ((x : Int) + 1).toNat < n - (x : Int).toNat; omega)
    · have hxn : x = n := by omega
      have hoff : offs s.data.toList x = s.size := by
        rw [hxn, ← HN.out, ← HP.out, offs_all, size_len]
      obtain ⟨o, ho⟩ : ∃ o, offs s.data.toList x = o := ⟨_, rfl⟩
      rw [ho] at hoff
      rw [ho]
      obtain ⟨K0, hK0⟩ : ∃ K0, keysOf false s.data.toList = K0 := ⟨_, rfl⟩
      obtain ⟨H0, hH0⟩ : ∃ H0 : ByteArray, (⟨(held false s.data.toList).toArray⟩ : ByteArray) = H0 := ⟨_, rfl⟩
      have hHd : H0.data.toList = held false s.data.toList := by rw [← hH0]
      have hpre := keys_pre s.data.toList
      rw [HK.out, hK0] at hpre
      obtain ⟨m, hm⟩ : ∃ m, K0.length = m := ⟨_, rfl⟩
      have hmn : m ≤ n := by
        have := congrArg List.length hpre
        rw [List.length_append, HKN.out, hm] at this; omega
      obtain ⟨t, ht⟩ := held_suf s.data.toList
      have htl := congrArg List.length ht
      rw [List.length_append, ← hHd, size_len, size_len] at htl
      have hsuf : s.extract (s.size - H0.size) s.size = H0 := ext_data (by
        rw [Lib.extract_to_end, hHd]
        have l1 : s.size - H0.size = t.length := by omega
        rw [l1]
        conv => lhs; rw [ht]
        exact List.drop_left)
      have HM := Lib.hid hm
      have HK0 := Lib.hid hK0
      have HH0 := Lib.hid hH0
      have HPRE := Lib.hid hpre
      have hhs : H0.size ≤ s.size := by omega
      have hhi : (H0.size : Int) ≤ s.size := by omega
      have qo : ((o : Int) == (s.size : Int)) = true := beq_true_i (by omega)
      have qm : decide ((m : Int) ≤ n) = true := by rw [decide_eq_true_eq]; omega
      have qh : decide ((H0.size : Int) ≤ s.size) = true := by rw [decide_eq_true_eq]; omega
      have mi : (m : Int) ≤ n := by omega
      have mc : (m : Int) ≤ c := by omega
      have hge : (n : Int) ≤ x := by omega
      have hmb : m ≤ 1000000000 := by omega
      have ss : ((s.size : Int) - H0.size).toNat = s.size - H0.size := by omega
      have s0 : 0 ≤ (s.size : Int) - H0.size := by omega
      have s1 : (s.size : Int) - H0.size ≤ s.size := by omega
      clear hxn hoff ho hK0 hH0 hHd hpre hm ht htl hlt
      obtain ⟨wo, hwo⟩ : ∃ wo, wo = wr := ⟨_, rfl⟩
      subst hwo
      go_wp2_with (first
        | (go_at_call 17; (with_reducible refine (fed_one s hs' wo.heap.size 1 (Nat.le_refl _) _ (HT.out.below (bel_alloc (bel_call HB3.out hB.out) _)) (heap_alloc_new wo _)).mono ?_); rintro e wz ⟨v, rfl, ho, hb⟩; rw [HK0.out] at ho; rw [HH0.out]; obtain ⟨A5, c5, rfl, hc5, hC5⟩ := own_Cn ho HM.out; have HBz := Lib.hid (bel_call (bel_alloc hB.out _) hb); have HCz := Lib.hid hC5; clear ho hb hC5)
        | (go_at_call 18; (with_reducible refine (same_n K0 m HM.out hmb A5 A c5 c _ HCz.out hc5 (take_C (Ck_below HC2.out HBz.out) HPRE.out HM.out) (Nat.le_trans hmn hc)).mono ?_); rintro e wy ⟨rfl, nd, rfl⟩))
      go_ret
      exact ⟨rfl, bel_drewN (bel_call HB3.out HBz.out) _⟩
end Go.Proofs.YtjjilhfebkeoeaaDoor.Ky
