/- KeysPieces: the law's walk. -/
import Derived.Test.YtjjilhfebkeoeaaDoorKzA
import Derived.Test.YtjjilhfebkeoeaaDoorOp
namespace Go.Proofs.YtjjilhfebkeoeaaDoor.Ky
open Go Go.RowKit Go.Proofs.YtjjilhfebkeoeaaDoor.PKy
open Go.Proofs.YtjjilhfebkeoeaaDoorW.PrintWords (bt rdOf Kd Drawn0 Reps Aside0)
open Go.Proofs.YtjjilhfebkeoeaaDoor.Wk (bcell bel_drew bel_drewN bel_alloc bel_set bel_call size_len mk_data beq_true_i bne_true_i bne_false_i beq_false_i drop_cons var_below blk_alloc blk_below blk_drewN blk_cell blk_frozen blk_far blk_set blk_lt own_slice own_below cells_new)
set_option linter.unusedVariables false
set_option linter.unusedSimpArgs false
/-- A row of keys is appended to a row of one's own. -/
theorem append_keys {w : World} {ops : Array Oper} {rest : List Oper} {o : Oper} {a : Act} {Q : Exit → Act → World → Prop} (hgd : o.guard = none) (s x : Operand)
    (ho : o.op = .call { callee := .builtin .append, args := #[s, x], argTypes := #[30, 30] })
    (base : Nat) (v : Value) (L : List Key) (hs : a.eval s = v) (hown : Own w base v L) {B : Nat} (v2 : Value) (L2 : List Key) (hx : a.eval x = v2) (h2 : Own w B v2 L2)
    (hb : L.length + L2.length ≤ 1000000000) (hbase : base ≤ w.heap.size)
    (h : ∀ v' w', Own w' base v' (L ++ L2) → w.grownBy w' v.ownBlock → wpList Tryd.prog ops Q rest (a.put o.dst v') w') : wpList Tryd.prog ops Q (o :: rest) a w := by
  obtain ⟨i0, hi, hz0, hz1, hz2⟩ := info_parts info50
  have hcl := fun g (h : v2.ownBlock = some g) => h2.cells h
  rcases h2.2 with ⟨rfl, h0⟩ | ⟨g5, cap5, cur5, rfl, -, -, -, -, -, -⟩
  · have e : L2 = [] := List.eq_nil_of_length_eq_zero h0
    subst e
    exact wpList_append_own_none hgd s x 30 ho base 50 i0 6 Tryd.underlying30 hi v _ _ hs hown hx (h v w (by rw [List.append_nil]; exact hown) (World.grownBy.refl _ _))
  · exact wpList_append_own _ hgd s x 30 ho base 50 i0 (.agg #[.int .i64 0, .int .i32 0, .bool false, .bool false, .bool false, .string ⟨#[]⟩]) 6 32 Tryd.underlying30 hi hz0 hz1 hz2 rfl (by decide) v _ _ hs hown ⟨g5, 0, none⟩ _ cap5 (kc L2) hx (kc_len _) (hcl g5 rfl) (kc_one _)
      (by unfold maxLen; omega) (by omega) hbase (fun v' w' ho' hg' _ => h v' w' (by unfold Own; rw [kc_app, List.length_append]; exact ho') hg')
/-- Behind the first append: the row, the flushed row, the decoder's box. -/
structure PA (w w7 wa : World) (g : Nat) (va vf : Value) (K F : List Key) : Prop where
  own : Own wa w7.heap.size va K
  fl : Own wa 0 vf F
  dec : wa.heap[g]? = some (.cells #[.string ⟨#[]⟩] 58 (0, 0))
  bel : Below w.heap.size w wa
  le : w7.heap.size ≤ wa.heap.size
  g : g < w7.heap.size
theorem PA.first {w w7 wa : World} {g B : Nat} {va vf : Value} {K F : List Key} {o : Obj} (hb : Below w.heap.size w w7) (hf : Own w7 B vf F) (hd : w7.heap[g]? = some (.cells #[.string ⟨#[]⟩] 58 (0, 0)))
    (ho : Own wa w7.heap.size va K) (hg : (w7.alloc o).grownBy wa (some w7.heap.size)) : PA w w7 wa g va vf K F := by
  have hlt := blk_lt hd
  have hs := hg.size
  have h1 := hb.size
  have hsz : (w7.alloc o).heap.size = w7.heap.size + 1 := by simp
  refine ⟨ho, own_base (World.ownsRow.kept (World.ownsRow.alloc hf _) hg (.inr (fun e => Nat.lt_irrefl _ (World.ownsRow.lt hf _ e).2))) (Nat.zero_le _), ?_, (bel_alloc hb o).grown hg (by omega) (fun k hk => by cases hk; exact h1), by omega, hlt⟩
  rw [hg.block g (by omega) (fun e => by cases e; omega)]
  exact Wk.blk_alloc hd o
theorem PA.second {w w7 wa wb : World} {g : Nat} {va vf : Value} {K F : List Key} (h : PA w w7 wa g va vf K F) (hb : Below w.heap.size w w7) (hg : wa.grownBy wb va.ownBlock) :
    wb.heap[g]? = some (.cells #[.string ⟨#[]⟩] 58 (0, 0)) ∧ Below w.heap.size w wb := by
  have h1 := hb.size
  have h2 := h.g
  have h3 := h.le
  refine ⟨?_, h.bel.grown hg (by omega) (fun k hk => by have := (h.own.lt k hk).1; omega)⟩
  rw [hg.block g (by omega) (fun e => by have := (h.own.lt _ e.symm).1; omega)]
  exact h.dec
theorem K_le {K F : List Key} (h : K.length + F.length ≤ 1000000000) : ([] : List Key).length + K.length ≤ 1000000000 := by simp; omega
theorem alloc_le (w : World) (o : Obj) : w.heap.size ≤ (w.alloc o).heap.size := by simp
/-- The bytes one by one, each with an empty string behind it. -/
def ones (l : List UInt8) : List (List UInt8) := l.flatMap fun b => [[b], []]
theorem ones_len (l : List UInt8) : (ones l).length = 2 * l.length := by
  induction l with
  | nil => rfl
  | cons b r ih => simp only [ones, List.flatMap_cons, List.length_append, List.length_cons, List.length_nil] at *; omega
theorem ones_snoc (l : List UInt8) (b : UInt8) : ones (l ++ [b]) = ones l ++ [[b], []] := by simp [ones]
theorem ones_cat (l : List UInt8) : cat ((ones l).map ByteS) = l := by
  induction l with
  | nil => rfl
  | cons b r ih =>
    have e : ones (b :: r) = [b] :: [] :: ones r := rfl
    have e2 : cat ((ones (b :: r)).map ByteS) = b :: cat ((ones r).map ByteS) := by rw [e]; simp [cat, ByteS]
    rw [e2, ih]
theorem fed_n (A : Option Addr) (c n : Nat) (l0 : List ByteArray) (hn : l0.length = n) (S : List UInt8) (hS : cat l0 = S) (K : List Key) (hK : keysOf false S = K) (H : ByteArray) (hH : ByteS (held false S) = H) (w : World) (hT : Tb w)
    (hC : Kd.C Kd.string w A n l0) (hc : n ≤ c) (hsz : S.length ≤ 1000000000) (hll : n ≤ 1000000000) :
    Calls Tryd.prog 17 #[.slice A n c] w fun e w' => ∃ v, e = .returned (.tuple #[v, .string H]) ∧ Own w' w.heap.size v K ∧ Below w.heap.size w w' := by
  subst hn hS hK hH
  exact fed_calls A c l0 w hT hC hc hsz hll
theorem fed_one' (s : ByteArray) (hs : s.size ≤ 1000000000) (S : List UInt8) (hS : s.data.toList = S) (K : List Key) (hK : keysOf false S = K) (H : ByteArray) (hH : ByteS (held false S) = H) (g c0 : Nat) (hc : 1 ≤ c0) (w : World) (hT : Tb w) (hg : w.heap[g]? = some (.cells #[.string s] 9 (0, 0))) :
    Calls Tryd.prog 17 #[.slice (some ⟨g, 0, none⟩) 1 c0] w fun e w' => ∃ v, e = .returned (.tuple #[v, .string H]) ∧ Own w' w.heap.size v K ∧ Below w.heap.size w w' := by
  subst hS hK hH
  exact fed_one s hs g c0 hc w hT hg
set_option maxHeartbeats 8000000 in
set_option maxRecDepth 1000000 in
theorem pieces_calls (A0 : Option Addr) (c0 : Nat) (P : List ByteArray) (w : World) (hT : Tb w) (hC : Kd.C Kd.string w A0 P.length P) (hc : P.length ≤ c0) (hsz : (cat P).length ≤ 10000000) (hll : P.length ≤ 10000000) :
    Calls Tryd.prog 5 #[.slice A0 P.length c0] w fun e w' => e = .returned (.bool true) ∧ Below w.heap.size w w' := by
  obtain ⟨i9, hi9, hz90, hz91, hz92⟩ := info_parts info9
  have HT := Lib.hid hT
  have HC := Aside0.mk hC
  clear hT hC
  go_enter Tryd.func5, Tryd.ntmps5
  go_wp2_with (go_at_call 16; (with_reducible refine (fixed_calls _ HT.out).mono ?_); rintro e w1 ⟨rfl, hb⟩; have HB1 := Lib.hid hb; clear hb)
  go_loopw [3, 4] (fun v3 v4 wr => ∃ x : Nat, v4 = .int .i64 x ∧ v3 = .string (ByteS (cat (P.take x))) ∧ x ≤ P.length ∧ Hid (Below w.heap.size w wr)) (fun _ v4 _ => P.length - (intOf v4).toNat)
  case atStart => exact ⟨0, rfl, rfl, Nat.zero_le _, HB1.out⟩
  case round =>
    obtain ⟨x, rfl, rfl, hx, hB⟩ := hrel
    obtain ⟨t, ht⟩ : ∃ t, ByteS (cat (P.take x)) = t := ⟨_, rfl⟩
    rw [ht]
    by_cases hlt : x < P.length
    · obtain ⟨p, hp⟩ : ∃ p, p = P[x] := ⟨_, rfl⟩
      obtain ⟨ad, ea, hcell⟩ := Kd.at_string (Cs_below HC.out hB.out) (x : Int) (by omega) (by omega)
      subst ea
      have hrd : rdOf ByteArray.empty P (x : Int) = p := by unfold rdOf; rw [Int.toNat_natCast, List.getD_eq_getElem?_getD, List.getElem?_eq_getElem hlt, hp]; rfl
      rw [hrd, Int.toNat_natCast] at hcell
      have hcs := cat_snoc P x hlt
      rw [← hp] at hcs
      have hle := cat_take_le P (x + 1)
      rw [hcs, List.length_append, size_len] at hle
      have htd : t.data.toList = cat (P.take x) := by rw [← ht]; exact held_B _
      have hts : t.size + p.size ≤ 10000000 := by rw [← size_len t, htd]; omega
      have hnext : Hid (t ++ p = ByteS (cat (P.take (x + 1)))) := (ext_data (by rw [data_app, htd, hcs]; exact (held_B _).symm) : t ++ p = ByteS (cat (P.take (x + 1))))
      have hxi : (x : Int) < (P.length : Int) := by omega
      clear hrd hp hcs hle htd ht
      go_wp2
      go_roundw
      case rel => exact ⟨x + 1, by go_num, by rw [hnext.out], by omega, hB.out⟩
      all_goals (first | (show P.length - ((x : Int) + 1).toNat < P.length - (x : Int).toNat; omega) | skip)
    · have hxn : x = P.length := by omega
      have htd : t.data.toList = cat P := by rw [← ht, hxn, List.take_length]; exact held_B _
      obtain ⟨S, hS⟩ : ∃ S, cat P = S := ⟨_, rfl⟩
      rw [hS] at htd hsz
      have hts : t.size ≤ 10000000 := by rw [← size_len, htd]; exact hsz
      have hSt : S.length = t.size := by rw [← htd, size_len]
      have hge : (P.length : Int) ≤ x := by omega
      have qx : decide ((x : Int) < (P.length : Int)) = false := by rw [decide_eq_false_iff_not]; omega
      have qx' : decide (x < P.length) = false := by rw [decide_eq_false_iff_not]; omega
      have HS := Lib.hid hS
      have HTD := Lib.hid htd
      clear ht hS htd hxn hlt
      go_wp2
      go_loopw [5, 6] (fun v5 v6 wr => ∃ y : Nat, v6 = .int .i64 y ∧ y ≤ t.size ∧ Hid (OwnS wr w.heap.size v5 (ones (S.take y))) ∧ Hid (Below w.heap.size w wr)) (fun _ v6 _ => t.size - (intOf v6).toNat)
      case atStart => exact ⟨0, rfl, Nat.zero_le _, World.ownsRow_nil _ _ _ _, hB.out⟩
      case round =>
        obtain ⟨y, rfl, hy, hown, hW⟩ := hrel
        by_cases hlt : y < t.size
        · obtain ⟨on, hon⟩ : ∃ on, (ones (S.take y)).length = on := ⟨_, rfl⟩
          obtain ⟨A, c, rfl, hcc, -⟩ := ownS_Cn hown.out hon
          have hownr : Hid (wr.ownsRow w.heap.size 9 1 (.slice A on c) on (sc (ones (S.take y)))) := (hon ▸ hown.out : wr.ownsRow w.heap.size 9 1 (.slice A on c) on (sc (ones (S.take y))))
          have hol : on ≤ 2 * t.size := by have h := ones_len (S.take y); rw [List.length_take, hon] at h; omega
          have HON := Lib.hid hon
          clear hon
          have hyS : y < S.length := by omega
          have n2 : ((y : Int) + 1).toNat = y + 1 := by omega
          have b0 : (0 : Int) ≤ (y : Int) + 1 := by omega
          have b1 : (y : Int) + 1 ≤ t.size := by omega
          have b2 : (y : Int) ≤ (y : Int) + 1 := by omega
          have hyi : (y : Int) < t.size := by omega
          have hone : Hid (t.extract y (y + 1) = ByteS [S[y]]) := (ext_data (by
            rw [mid_ext, HTD.out]
            refine Eq.trans ?_ (held_B _).symm
            rw [List.drop_eq_getElem_cons hyS]; rfl) : t.extract y (y + 1) = ByteS [S[y]])
          have hsn : Hid (ones (S.take (y + 1)) = ones (S.take y) ++ [[S[y]], []]) := (by rw [List.take_succ_eq_append_getElem hyS, ones_snoc] : ones (S.take (y + 1)) = ones (S.take y) ++ [[S[y]], []])
          obtain ⟨wo, hwo⟩ : ∃ wo, wo = wr := ⟨_, rfl⟩
          subst hwo
          go_wp2_with (at_builtin; go_loud (refine wpList_append_own _ rfl _ _ 38 rfl w.heap.size 9 i9 (.string ⟨#[]⟩) 1 16 Tryd.underlying38 hi9 hz90 hz91 hz92 rfl (by decide) _ _ _ rfl (World.ownsRow.alloc hownr.out _) ⟨wo.heap.size, 0, none⟩ 2 2 [.string (t.extract y (y + 1)), .string ⟨#[]⟩] rfl rfl ?c1 ?c2 ?c3 ?c4 ?c5 ?_))
          case c1 => intro j u hj; exact cells_new wo _ 9 j u hj
          case c2 => simp [Value.oneCell']
          case c3 => unfold maxLen; omega
          case c4 => omega
          case c5 => have h1 := hW.out.size; simp; omega
          intro v' w2 hown' hgrow _
          have hW3 : Hid (Below w.heap.size w w2) := (bel_alloc hW.out _).grown hgrow (by have h1 := hW.out.size; simp; omega) (fun k hk => (hownr.out.lt k hk).1)
          have hown3 : Hid (OwnS w2 w.heap.size v' (ones (S.take (y + 1)))) := (by
            rw [hsn.out]
            show World.ownsRow _ _ _ _ _ _ _
            rw [List.length_append, HON.out, show sc (ones (S.take y) ++ [[S[y]], []]) = sc (ones (S.take y)) ++ [.string (t.extract y (y + 1)), .string ⟨#[]⟩] from by rw [hone.out]; simp [sc, ByteS]]
            exact hown' : OwnS w2 w.heap.size v' (ones (S.take (y + 1))))
          clear hown' hgrow
          go_wp2
          go_roundw
          case rel => exact ⟨y + 1, by go_num, by omega, hown3.out, hW3.out⟩
          all_goals (first | (show t.size - ((y : Int) + 1).toNat < t.size - (y : Int).toNat; omega) | skip)
        · have hyn : y = t.size := by omega
          have hones : (ones (S.take y)) = ones S := by rw [List.take_of_length_le (by omega)]
          rw [hones] at hown
          have hge2 : (t.size : Int) ≤ y := by omega
          obtain ⟨no, hno⟩ : ∃ no, (ones S).length = no := ⟨_, rfl⟩
          have hnob : no ≤ 1000000000 := by have := ones_len S; omega
          obtain ⟨Ao, co, rfl, hco, hCo⟩ := ownS_Cn hown.out hno
          have HNO : Hid (((ones S).map ByteS).length = no) := (by rw [List.length_map]; exact hno : ((ones S).map ByteS).length = no)
          have HCO := Aside0.mk hCo
          obtain ⟨K, hK⟩ : ∃ K, keysOf false S = K := ⟨_, rfl⟩
          obtain ⟨H, hH⟩ : ∃ H, ByteS (held false S) = H := ⟨_, rfl⟩
          obtain ⟨F, hF⟩ : ∃ F, keysOf true (held false S) = F := ⟨_, rfl⟩
          have hHd : H.data.toList = held false S := by rw [← hH]; exact held_B _
          have hkl := keys_len false S
          rw [hK] at hkl
          have hkl2 := keys_len true (held false S)
          rw [hF] at hkl2
          have hpre := keys_pre S
          rw [hK, hF] at hpre
          have hHs : H.size ≤ 1000000000 := by rw [← size_len, hHd]; omega
          have hKF : K.length + F.length ≤ 1000000000 := by omega
          obtain ⟨m, hm⟩ : ∃ m, K.length = m := ⟨_, rfl⟩
          have hmb : m ≤ 1000000000 := by omega
          obtain ⟨f, hf⟩ : ∃ f, F.length = f := ⟨_, rfl⟩
          have hmf : (K ++ F).length = m + f := by rw [List.length_append, hm, hf]
          have hmfb : m + f ≤ 1000000000 := by omega
          have HH := Lib.hid hH
          have HK := Lib.hid hK
          have HF := Lib.hid hF
          have HM := Lib.hid hm
          have HMF := Lib.hid hmf
          have HHD := Lib.hid hHd
          have HPRE := Lib.hid hpre
          have HHN : Hid (H ≠ H → False) := fun h => h rfl
          have tb : t.size ≤ 1000000000 := by omega
          have hSb : S.length ≤ 1000000000 := by omega
          have hPb : P.length ≤ 1000000000 := by omega
          have he0 : (⟨#[]⟩ : ByteArray).size + t.size ≤ 1000000000 := by have : (⟨#[]⟩ : ByteArray).size = 0 := rfl; omega
          clear hones hno hK hH hF hHd hkl hkl2 hpre hf hyn hlt hCo hown
          obtain ⟨wo, hwo⟩ : ∃ wo, wo = wr := ⟨_, rfl⟩
          subst hwo
          go_wp2_with (first
            | (go_at_call 17; (with_reducible refine (fed_n A0 c0 P.length P rfl S HS.out K HK.out H HH.out _ (HT.out.below hW.out) (Cs_below HC.out hW.out) hc hSb hPb).mono ?_); rintro e w2 ⟨k1, rfl, ho, hb⟩; have HO1 := Lib.hid ho; obtain ⟨A1, c1, hk1, hc1, hC1⟩ := own_Cn ho HM.out; have HC1 := Lib.hid hC1; have HB2 := Lib.hid (bel_call hW.out hb); have HCO2 := Lib.hid (Cs_below HCO.out hb); clear ho hb hC1)
            | (go_at_call 17; (with_reducible refine (fed_one' t tb S HTD.out K HK.out H HH.out w2.heap.size 1 (Nat.le_refl _) _ (HT.out.below (bel_alloc HB2.out _)) (heap_alloc_new w2 _)).mono ?_); rintro e w3 ⟨k2, rfl, ho, hb⟩; obtain ⟨A2, c2, hk2, hc2, hC2⟩ := own_Cn ho HM.out; have HC2 := Lib.hid hC2; have HB3 := Lib.hid (bel_call (bel_alloc HB2.out _) hb); have HCO3 := Lib.hid (Cs_below (Cs_below HCO2.out (bel_a _ _)) hb); have HO13 := Lib.hid (own_below (World.ownsRow.alloc HO1.out _) hb); have HC13 := Lib.hid (Ck_below (Ck_below HC1.out (bel_a _ _)) hb); clear ho hb hC2)
            | (go_at_call 17; (with_reducible refine (fed_n Ao co no _ HNO.out S (ones_cat S) K HK.out H HH.out _ (HT.out.below HB3.out) HCO3.out hco hSb hnob).mono ?_); rintro e w4 ⟨k3, rfl, ho, hb⟩; obtain ⟨A3, c3, hk3, hc3, hC3⟩ := own_Cn ho HM.out; have HC3 := Lib.hid hC3; have HB4 := Lib.hid (bel_call HB3.out hb); have HO14 := Lib.hid (own_below HO13.out hb); have HC14 := Lib.hid (Ck_below HC13.out hb); have HC24 := Lib.hid (Ck_below HC2.out hb); clear ho hb hC3; subst hk1 hk2 hk3))
          have HE : Hid (((⟨#[]⟩ : ByteArray) ++ t).data.toList = S) := (by rw [data_app, HTD.out]; rfl : ((⟨#[]⟩ : ByteArray) ++ t).data.toList = S)
          have hs0 : (⟨#[]⟩ : ByteArray).size ≤ 1000000000 := Nat.zero_le _
          have HN0 : Hid (keysOf true (⟨#[]⟩ : ByteArray).data.toList = []) := (rfl : keysOf true ([] : List UInt8) = [])
          have HKF := Lib.hid hKF
          go_wp2_with (first
            | (go_at_call 18; (with_reducible refine (same_n K m HM.out hmb A1 A2 c1 c2 w4 HC14.out hc1 HC24.out hc2).mono ?_); rintro e wa ⟨rfl, n1, rfl⟩)
            | (go_at_call 18; (with_reducible refine (same_n K m HM.out hmb A1 A3 c1 c3 (w4.drewN n1) (Ck_below HC14.out (bel_drewN (Below.refl _ _) n1)) hc1 (Ck_below HC3.out (bel_drewN (Below.refl _ _) n1)) hc3).mono ?_); rintro e wb ⟨rfl, n2, rfl⟩; have HB5 := Lib.hid (bel_drewN HB4.out (n1 + n2)); have HO5 := Lib.hid (own_below HO14.out (bel_drewN (Below.refl _ _) (n1 + n2))))
            | (go_at_call 19; (with_reducible refine (new_calls _).mono ?_); rintro e w5 ⟨rfl, rfl⟩; have HG5 : Hid (((w4.drewN (n1 + n2)).alloc (.cells #[.string ⟨#[]⟩] 58)).heap[w4.heap.size]? = some (.cells #[.string ⟨#[]⟩] 58 (0, 0))) := heap_alloc_new (w4.drewN (n1 + n2)) _; have HB5a := Lib.hid (bel_alloc HB5.out (.cells #[.string ⟨#[]⟩] 58)))
            | (go_at_call 20; (with_reducible refine (feed_calls w4.heap.size ⟨#[]⟩ t he0 _ (HT.out.below HB5a.out) HG5.out).mono ?_); rintro e w6 ⟨v6, rfl, -, hg, hd⟩; rw [HE.out, show (⟨(held false S).toArray⟩ : ByteArray) = H from HH.out] at hd; have HD6 := Lib.hid hd; have HB6 := Lib.hid (bel_gb (bel_alloc HB5.out _) hg HB5.out.size); have HO6 := Lib.hid (Own_grown (World.ownsRow.alloc HO5.out _) hg (fun k hk => Nat.ne_of_lt (World.ownsRow.lt HO5.out k hk).2)); clear hg hd)
            | (go_at_call 21; (with_reducible refine (flush_calls w4.heap.size H hHs w6 (HT.out.below HB6.out) HD6.out).mono ?_); rintro e w7 ⟨vf, rfl, ho, hg, hd⟩; rw [HHD.out, HF.out] at ho; rw [show held true H.data.toList = [] from run_true _] at hd; have HD7 := Lib.hid hd; have HOF := Lib.hid ho; have HB7 := Lib.hid (bel_gb HB6.out hg HB5.out.size); have HO7 := Lib.hid (Own_grown HO6.out hg (fun k hk => Nat.ne_of_lt (World.ownsRow.lt HO5.out k hk).2)); clear hg hd ho)
            | (at_builtin; (refine append_keys rfl _ _ rfl w7.heap.size _ [] rfl (World.ownsRow_made w7 #[] 0 (Nat.le_refl _) (Nat.zero_le _) rfl) _ K rfl (World.ownsRow.alloc HO7.out _) (K_le HKF.out) (alloc_le w7 _) ?_); intro va wa hoa hga; have HPA : Hid (PA w w7 wa w4.heap.size va vf K F) := PA.first HB7.out HOF.out HD7.out hoa hga; clear hoa hga)
            | (at_builtin; refine append_keys rfl _ _ rfl w7.heap.size va K rfl HPA.out.own vf F rfl HPA.out.fl HKF.out HPA.out.le ?_; intro vb wb hob hgb; obtain ⟨hdb, hbb⟩ := HPA.out.second HB7.out hgb; obtain ⟨Ab, cb, rfl, hcb, hCb⟩ := own_Cn hob HMF.out; have HDB := Lib.hid hdb; have HBB := Lib.hid hbb; have HCB := Lib.hid hCb; clear hob hgb hdb hbb hCb)
            | (go_at_call 14; (with_reducible refine (decode_all t tb wb (HT.out.below HBB.out)).mono ?_); rintro e w8 ⟨v8, rfl, ho, hb⟩; rw [HTD.out, HPRE.out] at ho; obtain ⟨A8, c8, rfl, hc8, hC8⟩ := own_Cn ho HMF.out; have HC8 := Lib.hid hC8; have HB8 := Lib.hid (bel_call HBB.out hb); have HD8 := Lib.hid (blk_below HDB.out hb); have HCB8 := Lib.hid (Ck_below HCB.out hb); clear ho hb hC8)
            | (go_at_call 18; (with_reducible refine (same_n (K ++ F) (m + f) HMF.out hmfb Ab A8 cb c8 w8 HCB8.out hcb HC8.out hc8).mono ?_); rintro e wc ⟨rfl, n3, rfl⟩)
            | (go_at_call 22; (with_reducible refine (held_calls w4.heap.size _ _ (blk_drewN HD8.out n3)).mono ?_); rintro e w9 ⟨rfl, rfl⟩)
            | (go_at_call 21; (with_reducible refine (flush_calls w4.heap.size ⟨#[]⟩ hs0 _ (HT.out.below (bel_drewN HB8.out n3)) (blk_drewN HD8.out n3)).mono ?_); rintro e w10 ⟨v10, rfl, ho, hg, hd⟩; rw [HN0.out] at ho; obtain ⟨A10, c10, rfl, hc10, hC10⟩ := own_Cn (n := 0) ho rfl; have HB10 := Lib.hid (bel_gb (bel_drewN HB8.out n3) hg HB5.out.size); clear ho hg hd hC10))
          go_ret
          exact ⟨rfl, HB10.out⟩
end Go.Proofs.YtjjilhfebkeoeaaDoor.Ky
namespace Go.Proofs.YtjjilhfebkeoeaaDoor.Op
open Go.ChangeShapes Go.WideShapes Go.ChangeAt Go.RowKit Go.Deep Go.Proofs.YtjjilhfebkeoeaaDoorW.PrintWords Go.Proofs.YtjjilhfebkeoeaaDoor.PKy
open Go.ChangeMaps (open_string shut_string)
set_option linter.unusedVariables false
theorem sum_le {H : Type} {α : Type} (f : Nat → α) (D : Nat → DataW H) (g : α → Nat) (L : List Nat) (h : ∀ i ∈ L, g (f i) ≤ Rows.uptoBulk (D i)) : ((L.map f).map g).sum ≤ Rows.uptoBulkAll (L.map D) := by
  induction L with
  | nil => simp
  | cons x r ih =>
    have h1 := ih (fun i hi => h i (by simp [hi]))
    have h2 := h x (by simp)
    simp only [List.map_cons, List.sum_cons, Rows.uptoBulkAll]
    omega
section
variable {H : Type} {enc : TypeId × Value → H} {W : World} {base : Nat} {sp : Nat → Bool} {held : Bool}
/-- A row of anything whose elements can be opened; each element's datum is a part of the row's. -/
theorem open_row2 {α : Type} (k : Kd α) (z : α) (Q : α → DataW H → Prop) (g : α → Nat) (hg : ∀ s d, Q s d → g s ≤ Rows.uptoBulk d) {e : TypeId} (hz : Tryd.prog.cellsOf e = k.sz) (hel : ∀ (n : Nat) (cs : List Value) (x : DataW H × List MemPlace), cs.length = k.sz → DataW.trod enc Tryd.prog W base sp held n e cs = some x → ∃ s : α, Q s x.1 ∧ k.K W s cs)
    {fuel : Nat} {t : TypeId} (ht : Tryd.prog.underlying t = some (.slice e)) {a : Option Addr} {len cap : Nat} {x : DataW H × List MemPlace} (h : DataW.trod enc Tryd.prog W base sp held fuel t [.slice a len cap] = some x) :
    ∃ l : List α, l.length = len ∧ Kd.C k W a len l ∧ len ≤ cap ∧ len + 1 ≤ Rows.uptoBulk x.1 ∧ (∀ y ∈ l, ∃ d, Q y d ∧ Rows.uptoBulk d ≤ Rows.uptoBulk x.1) ∧ (l.map g).sum + 1 ≤ Rows.uptoBulk x.1 := by
  rcases open_slice ht h with ⟨hcs, hxx⟩ | ⟨a', len', cap', m, n, D, Pl, hcs, hb, hl, hm, hmm, hxx, hx⟩
  · simp only [List.cons.injEq, Value.slice.injEq, and_true] at hcs
    obtain ⟨rfl, rfl, rfl⟩ := hcs
    exact ⟨[], rfl, Kd.C_nil k W, by omega, by have := one_le x.1; omega, by simp, by have := one_le x.1; simp; omega⟩
  · simp only [List.cons.injEq, Value.slice.injEq, and_true] at hcs
    obtain ⟨rfl, rfl, rfl⟩ := hcs
    have hm' : len ≤ m := by rw [hmm]; split <;> omega
    have hbk : Rows.uptoBulkAll ((List.range len).map D) + 1 ≤ Rows.uptoBulk x.1 := by
      rw [hxx]; simp only [Rows.uptoBulk]; omega
    have hex : ∀ i, ∃ s : α, i < len → Q s (D i) ∧ ∃ c, c.length = k.sz ∧ k.K W s c ∧ ∀ j u, c[j]? = some u → W.cell? (a'.add (i * k.sz + j)) = some u := by
      intro i
      by_cases hi : i < len
      · obtain ⟨cs', h1, h2⟩ := hx i (by omega)
        rw [hz] at h1
        have h3 := World.cells?_some h1
        obtain ⟨s, hq, hk⟩ := hel n cs' _ h3.2.1 h2
        refine ⟨s, fun _ => ⟨hq, cs', h3.2.1, hk, fun j u hu => ?_⟩⟩
        have hj : j < k.sz := by
          have := (List.getElem?_eq_some_iff.mp hu).1
          rw [h3.2.1] at this; exact this
        have h4 := h3.2.2 j hj
        rw [hu, Addr.add_add] at h4
        exact h4
      · exact ⟨z, fun h => absurd h hi⟩
    obtain ⟨f, hf⟩ := Classical.axiomOfChoice hex
    refine ⟨(List.range len).map f, by simp, ⟨by simp, by unfold maxLen at hm; omega, fun _ => ⟨a', rfl, fun j p hp => ?_⟩⟩, hl, ?_, fun y hy => ?_, ?_⟩
    · obtain ⟨hj, rfl⟩ : j < len ∧ f j = p := by
        have h1 := List.getElem?_eq_some_iff.mp hp
        obtain ⟨h2, h3⟩ := h1
        simp at h2 h3
        exact ⟨h2, h3⟩
      exact (hf j hj).2
    · have := length_le ((List.range len).map D)
      simp at this
      omega
    · obtain ⟨i, hi, rfl⟩ := List.mem_map.mp hy
      refine ⟨D i, (hf i (List.mem_range.mp hi)).1, ?_⟩
      have := part_le (d := D i) (l := (List.range len).map D) (List.mem_map.mpr ⟨i, hi, rfl⟩)
      omega
    · have := sum_le f D g (List.range len) (fun i hi => hg _ _ (hf i (List.mem_range.mp hi)).1)
      omega
/-- A row of strings, with its sizes' sum. -/
theorem open_strs2 {fuel : Nat} {a : Option Addr} {len cap : Nat} {x : DataW H × List MemPlace} (h : DataW.trod enc Tryd.prog W base sp held fuel 38 [.slice a len cap] = some x) :
    ∃ l : List ByteArray, l.length = len ∧ Kd.C Kd.string W a len l ∧ len ≤ cap ∧ len + 1 ≤ Rows.uptoBulk x.1 ∧ (l.map ByteArray.size).sum + 1 ≤ Rows.uptoBulk x.1 := by
  obtain ⟨l, h1, h2, h3, h4, h5, h6⟩ := open_row2 Kd.string ByteArray.empty (fun s d => s.size + 1 ≤ Rows.uptoBulk d) ByteArray.size (fun s d h => by omega) (by kernel_rfl) (fun n cs x _ h => by
    obtain ⟨s, hs, e⟩ := DataW.trod_string Tryd.underlying9 h
    subst hs
    exact ⟨s, by rw [e.1]; exact Nat.le_of_eq (str_bulk s), rfl⟩) Tryd.underlying38 h
  exact ⟨l, h1, h2, h3, h4, h6⟩
end
theorem cat_len (l : List ByteArray) : (Ky.cat l).length = (l.map ByteArray.size).sum := by
  induction l with
  | nil => rfl
  | cons b r ih => simp only [Ky.cat, List.map_cons, List.flatten_cons, List.length_append, List.sum_cons] at *; rw [ih, Wk.size_len]
end Go.Proofs.YtjjilhfebkeoeaaDoor.Op
