/- KeysTexts: the law's walk. -/
import Derived.Test.YtjjilhfebkeoeaaDoorKzA
import Derived.Test.YtjjilhfebkeoeaaDoorKzN
import Derived.Test.YtjjilhfebkeoeaaDoorUn
import Derived.Deep.DeepCutAuto
namespace Go.Proofs.YtjjilhfebkeoeaaDoor.Ky
open Go Go.RowKit Go.Proofs.YtjjilhfebkeoeaaDoor.PKy
open Go.Proofs.YtjjilhfebkeoeaaDoorW.PrintWords (bt rdOf Kd Drawn0 Reps Aside0)
open Go.Proofs.YtjjilhfebkeoeaaDoor.Wk (bcell bel_drew bel_drewN bel_alloc bel_set bel_call size_len mk_data beq_true_i bne_true_i bne_false_i beq_false_i drop_cons var_below blk_alloc blk_below blk_drewN blk_cell blk_frozen blk_far blk_set blk_lt own_slice own_below cells_new)
set_option linter.unusedVariables false
set_option linter.unusedSimpArgs false
attribute [local go_sem high] eqA50
def endB : ByteArray := ⟨#[27, 91, 50, 48, 49, 126]⟩
theorem uc_at : ∀ (L : List (Int × Nat)) (j : Nat) (k : Int × Nat), L[j]? = some k → (Un.uc L)[j * 2]? = some (.int .i32 k.1) ∧ (Un.uc L)[j * 2 + 1]? = some (.int .i64 (k.2 : Nat))
  | [], j, k, h => by simp at h
  | a :: r, 0, k, h => by
    simp only [List.getElem?_cons_zero, Option.some.injEq] at h
    subst h
    exact ⟨rfl, rfl⟩
  | a :: r, j + 1, k, h => by
    have ih := uc_at r j k (by simpa using h)
    have e : (j + 1) * 2 = j * 2 + 2 := by omega
    refine ⟨?_, ?_⟩
    · rw [e]; exact ih.1
    · rw [e, show j * 2 + 2 + 1 = j * 2 + 1 + 2 from by omega]; exact ih.2
/-- A row of units, read in any later world. -/
theorem un_row {W : World} {B n : Nat} {v : Value} {L : List (Int × Nat)} (h : W.ownsRow B 27 2 v n (Un.uc L)) (hn : L.length = n) :
    ∃ A c, v = .slice A n c ∧ n ≤ c ∧ ∀ W', Below W.heap.size W W' → ∀ x p, L[x]? = some p → ∃ ad, A = some ad ∧ W'.cell? (ad.add (x * 2)) = some (.int .i32 p.1) ∧ W'.cell? ⟨(ad.add (x * 2)).block, (ad.add (x * 2)).off + 1, none⟩ = some (.int .i64 (p.2 : Nat)) := by
  have hcl := fun g (e : v.ownBlock = some g) => h.cells e
  rcases h.2 with ⟨rfl, h0⟩ | ⟨g, cap, cur, rfl, h1, h2, h3, h4, h5, h6⟩
  · exact ⟨none, 0, by rw [h0], by omega, fun W' hb x p hp => by
      have := (List.getElem?_eq_some_iff.mp hp).1
      omega⟩
  · refine ⟨_, cap, rfl, h3, fun W' hb x p hp => ⟨_, rfl, ?_, ?_⟩⟩
    · have := hcl g rfl _ _ (uc_at L x p hp).1
      exact (hb.cell (World.block_lt_of_cell? _ _ this)).trans this
    · have := hcl g rfl _ _ (uc_at L x p hp).2
      rw [← Go.Proofs.YtjjilhfebkeoeaaDoorW.PrintWords.add_field _ _ 1 (by omega)]
      exact (hb.cell (World.block_lt_of_cell? _ _ this)).trans this
theorem eqb_refl (a b : Int) (c d e : Bool) (t : ByteArray) : eqb50 a a b b c c d d e e t t = true := by simp [eqb50]
theorem C_tail {W : World} {ad : Addr} {n m : Nat} {k : Key} {K : List Key} (h : Kd.C k50 W (some ad) n ((k :: K).map toS)) (hm : K.length = m) : Kd.C k50 W (some (ad.add (1 * 6))) m (K.map toS) := by
  refine ⟨by rw [List.length_map, hm], ?_, fun _ => ⟨_, rfl, fun j p hp => ?_⟩⟩
  · have := h.2.1
    have h1 := h.1
    rw [List.length_map, List.length_cons, hm] at h1
    omega
  · have hn : 0 < n := by rw [← h.1]; simp
    obtain ⟨ad', ea, hh⟩ := h.2.2 hn
    cases ea
    obtain ⟨c, h1, h2, h3⟩ := hh (j + 1) p (by simpa using hp)
    refine ⟨c, h1, h2, fun i u hu => ?_⟩
    rw [Addr.add_add]
    have := h3 i u hu
    show W.cell? (ad.add (1 * 6 + (j * 6 + i))) = some u
    rw [show 1 * 6 + (j * 6 + i) = (j + 1) * 6 + i from by omega]; exact this
theorem C_none {W : World} {A : Option Addr} {K : List Key} (hm : K.length = 0) : Kd.C k50 W A 0 (K.map toS) := by
  have : K = [] := List.eq_nil_of_length_eq_zero hm
  subst this
  exact ⟨rfl, by decide, fun h => absurd h (by decide)⟩
theorem ad0 (ad : Addr) : ad.add 0 = ad := by unfold Addr.add; simp
theorem C_tail6 {W : World} {ad : Addr} {n m : Nat} {k : Key} {K : List Key} (h : Kd.C k50 W (some ad) n ((k :: K).map toS)) (hm : K.length = m) : Kd.C k50 W (some ⟨ad.block, ad.off + 6, none⟩) m (K.map toS) := by
  have h1 := C_tail h hm
  have h2 := Go.Proofs.YtjjilhfebkeoeaaDoorW.PrintWords.add_field ad 0 6 (by omega)
  rw [ad0, Nat.zero_add] at h2
  rw [Nat.one_mul, h2] at h1
  exact h1
/-- The first key's six cells. -/
theorem head6 {W : World} {ad : Addr} {n : Nat} {T : ByteArray} {K : List Key} (h : Kd.C k50 W (some ad) n (((⟨17, 0, false, false, false, T.data.toList⟩ : Key) :: K).map toS)) :
    W.cell? ad = some (.int .i64 17) ∧ W.cell? ⟨ad.block, ad.off + 1, none⟩ = some (.int .i32 0) ∧ W.cell? ⟨ad.block, ad.off + 2, none⟩ = some (.bool false) ∧ W.cell? ⟨ad.block, ad.off + 3, none⟩ = some (.bool false) ∧ W.cell? ⟨ad.block, ad.off + 4, none⟩ = some (.bool false) ∧ W.cell? ⟨ad.block, ad.off + 5, none⟩ = some (.string T) := by
  have hn : 0 < n := by rw [← h.1]; simp
  obtain ⟨ad', ea, k0, k1, k2, k3, k4, k5⟩ := at_T50 h 0 (by omega) (by omega)
  cases ea
  have hrk : rd_T50 (((⟨17, 0, false, false, false, T.data.toList⟩ : Key) :: K).map toS) 0 = ⟨17, 0, false, false, false, T⟩ := by
    show toS _ = _
    simp [toS]
  rw [hrk] at k0 k1 k2 k3 k4 k5
  simp only [Int.toNat_zero, Nat.zero_mul, ad0] at k0 k1 k2 k3 k4 k5
  exact ⟨k0, k1, k2, k3, k4, k5⟩
theorem C_zero {W : World} {A : Option Addr} {K : List Key} {m : Nat} (hm : K.length = m) (h0 : m ≤ 0) : Kd.C k50 W A m (K.map toS) := by
  obtain rfl : m = 0 := by omega
  exact C_none hm
theorem same_z (K : List Key) (m : Nat) (hm : K.length = m) (h0 : m ≤ 0) (A A' : Option Addr) (c' : Nat) (w : World) (hC' : Kd.C k50 w A' m (K.map toS)) (hc' : m ≤ c') :
    Calls Tryd.prog 18 #[.slice A 0 0, .slice A' m c'] w fun e w' => e = .returned (.bool true) ∧ ∃ n, w' = w.drewN n := by
  obtain rfl : m = 0 := by omega
  exact same_n K 0 hm (by decide) A A' 0 c' w (C_none hm) (Nat.le_refl _) hC' hc'
/-- The x-th key's six cells. -/
theorem key6 {W : World} {ad : Addr} {n x : Nat} {L : List Key} {k : Key} (h : Kd.C k50 W (some ad) n (L.map toS)) (hk : L[x]? = some k) :
    W.cell? (ad.add (x * 6)) = some (.int .i64 k.kind) ∧ W.cell? ⟨(ad.add (x * 6)).block, (ad.add (x * 6)).off + 1, none⟩ = some (.int .i32 k.char) ∧ W.cell? ⟨(ad.add (x * 6)).block, (ad.add (x * 6)).off + 2, none⟩ = some (.bool k.ctrl) ∧ W.cell? ⟨(ad.add (x * 6)).block, (ad.add (x * 6)).off + 3, none⟩ = some (.bool k.mt) ∧ W.cell? ⟨(ad.add (x * 6)).block, (ad.add (x * 6)).off + 4, none⟩ = some (.bool k.shift) ∧ W.cell? ⟨(ad.add (x * 6)).block, (ad.add (x * 6)).off + 5, none⟩ = some (.string ⟨k.text.toArray⟩) := by
  obtain ⟨hx, hkx⟩ := List.getElem?_eq_some_iff.mp hk
  have hn : L.length = n := by have := h.1; rwa [List.length_map] at this
  obtain ⟨ad', ea, k0, k1, k2, k3, k4, k5⟩ := at_T50 h (x : Int) (by omega) (by omega)
  cases ea
  have hrk : rd_T50 (L.map toS) (x : Int) = toS k := by
    unfold rd_T50; rw [Int.toNat_natCast, List.getD_eq_getElem?_getD, List.getElem?_map, hk]; rfl
  rw [hrk, Int.toNat_natCast] at k0 k1 k2 k3 k4 k5
  exact ⟨k0, k1, k2, k3, k4, k5⟩
theorem K6.drewN {W : World} {g : Nat} {kind char : Int} {ct mt sh : Bool} {text : List UInt8} (h : K6 W g kind char ct mt sh text) (n : Nat) : K6 (W.drewN n) g kind char ct mt sh text := h
theorem take_add (l : List UInt8) (a b : Nat) : (l.drop a).take b = (l.take (a + b)).drop a := by rw [List.drop_take]; congr 1; omega
set_option maxHeartbeats 8000000 in
set_option maxRecDepth 1000000 in
theorem texts_calls (s more : ByteArray) (hs : s.size ≤ 100000000) (hm : more.size ≤ 100000000) (w : World) (hT : Tb w) :
    Calls Tryd.prog 9 #[.string s, .string more] w fun e w' => e = .returned (.bool true) ∧ Below w.heap.size w w' := by
  have HT := Lib.hid hT
  have hs' : s.size ≤ 1000000000 := by omega
  obtain ⟨P, hP⟩ : ∃ P, ((⟨#[27, 91, 50, 48, 48, 126]⟩ : ByteArray) ++ s) ++ (⟨#[27, 91, 50, 48, 49, 126]⟩ : ByteArray) = P := ⟨_, rfl⟩
  have hPd : P.data.toList = pbeg ++ (s.data.toList ++ pend) := by rw [← hP, data_app, data_app, List.append_assoc]; rfl
  have hPs : P.size = s.size + 12 := by
    have := congrArg List.length hPd
    rw [size_len, List.length_append, List.length_append, size_len] at this
    simp only [pbeg, pend, List.length_cons, List.length_nil] at this
    omega
  have HP := Lib.hid hP
  have HPD := Lib.hid hPd
  have HPS := Lib.hid hPs
  have hPb : P.size ≤ 200000000 := by omega
  have hPl : s.size + 12 ≤ P.size := by omega
  clear hT hP hPd hPs
  go_enter Tryd.func9, Tryd.ntmps9
  go_upto_region 4 with (go_at_call 16; (with_reducible refine (fixed_calls _ HT.out).mono ?_); rintro e w1 ⟨rfl, hb⟩; have HB1 := Lib.hid hb; clear hb)
  rw [HP.out]
  go_wp2
  go_loopw [6] (fun v6 wr => ∃ f : Nat, v6 = .int .i64 f ∧ 6 ≤ f ∧ f ≤ s.size + 6 ∧ Hid (Go.Lib.NoOcc (s.data.toList ++ pend) pend (f - 6)) ∧ wr = w1) (fun v6 _ => s.size + 6 - (intOf v6).toNat)
  case atStart => exact ⟨6, rfl, Nat.le_refl _, by omega, fun _ h => absurd h (Nat.not_lt_zero _), rfl⟩
  case round =>
    obtain ⟨f, rfl, hf6, hfs, hno, rfl⟩ := hrel
    have i0 : (0 : Int) ≤ f := by omega
    have i1 : (f : Int) ≤ f + 6 := by omega
    have i2 : (f : Int) + 6 ≤ P.size := by omega
    have i3 : ((f : Int) + 6).toNat = f + 6 := by omega
    obtain ⟨X, hX⟩ : ∃ X, P.extract f (f + 6) = X := ⟨_, rfl⟩
    have hXd : X.data.toList = ((s.data.toList ++ pend).drop (f - 6)).take 6 := by
      rw [← hX, mid_ext, HPD.out]
      congr 1
      rw [show f = 6 + (f - 6) from by omega, ← List.drop_drop]
      simp [pbeg]
    by_cases ho : Go.Lib.occAt (s.data.toList ++ pend) pend (f - 6) = true
    · have hXe : X = endB := ext_data (by rw [hXd, occ_iff.mp ho]; rfl)
      have hXt : P.extract f (f + 6) = ⟨#[27, 91, 50, 48, 49, 126]⟩ := by rw [hX, hXe]; rfl
      clear hX hXd hXe
      have hpk := paste_keys s.data.toList more.data.toList (f - 6) hno.out (by rw [size_len]; omega) ho
      obtain ⟨T, hT⟩ : ∃ T, P.extract 6 f = T := ⟨_, rfl⟩
      have hTd : T.data.toList = (s.data.toList ++ pend).take (f - 6) := by
        have e : f = 6 + (f - 6) := by omega
        rw [← hT]
        conv => lhs; rw [e]
        rw [mid_ext, HPD.out]; rfl
      obtain ⟨R0, hR0⟩ : ∃ R0, P.extract (f + 6) P.size = R0 := ⟨_, rfl⟩
      have hR0s : R0.size ≤ 200000000 := by rw [← hR0]; simp; omega
      obtain ⟨R, hR⟩ : ∃ R, R0 ++ more = R := ⟨_, rfl⟩
      have hRd : R.data.toList = (s.data.toList ++ pend).drop (f - 6 + 6) ++ more.data.toList := by
        rw [← hR, data_app, ← hR0, Lib.extract_to_end, HPD.out]
        congr 1
        rw [show f + 6 = 6 + (f - 6 + 6) from by omega, ← List.drop_drop]
        rfl
      have hRs : R.size ≤ 1000000000 := by
        have := congrArg List.length hRd
        rw [size_len, List.length_append, List.length_drop, List.length_append, size_len, size_len, pend_len] at this
        omega
      obtain ⟨Y, hY⟩ : ∃ Y, P ++ more = Y := ⟨_, rfl⟩
      have hYd : Y.data.toList = pbeg ++ (s.data.toList ++ pend) ++ more.data.toList := by rw [← hY, data_app, HPD.out]
      have hYs : Y.size ≤ 1000000000 := by
        have := congrArg List.length hYd
        rw [size_len, ← HPD.out, List.length_append, size_len, size_len] at this
        omega
      rw [← hYd, ← hRd, ← hTd] at hpk
      obtain ⟨K1, hK1⟩ : ∃ K1, keysOf true R.data.toList = K1 := ⟨_, rfl⟩
      obtain ⟨m, hm1⟩ : ∃ m, K1.length = m := ⟨_, rfl⟩
      have hmb : m ≤ 1000000000 := by
        have := keys_len true R.data.toList
        rw [hK1, hm1, size_len] at this; omega
      have hL : ((⟨17, 0, false, false, false, T.data.toList⟩ : Key) :: K1).length = m + 1 := by rw [List.length_cons, hm1]
      rw [hK1] at hpk
      have HY := Lib.hid hY
      have HPK := Lib.hid hpk
      have HT6 := Lib.hid hT
      have HRR := Lib.hid hR
      have HR0 := Lib.hid hR0
      have HK1 := Lib.hid hK1
      have HM1 := Lib.hid hm1
      have HL1 := Lib.hid hL
      clear hpk hT hTd hR hR0 hRd hY hYd hK1 hm1 hL ho hno
      have hmi : (m : Int) + 1 ≠ 0 := by omega
      have hm0 : ((m : Int) + 1 == 0) = false := beq_false_i hmi
      go_upto_region 8 with (go_at_call 14; rw [HY.out]; (with_reducible refine (decode_all Y hYs _ (HT.out.below HB1.out)).mono ?_); rintro e w2 ⟨v, rfl, ho, hb⟩; rw [HPK.out] at ho; obtain ⟨A, c, rfl, hc, hC⟩ := own_Cn ho HL1.out; have HB2 := Lib.hid (bel_call HB1.out hb); have HC := Lib.hid hC; clear ho hC hb hXt)
      obtain ⟨ad, ea, -⟩ := HC.out.2.2 (Nat.succ_pos m)
      subst ea
      obtain ⟨k0, k1, k2, k3, k4, k5⟩ := head6 HC.out
      have hee := eqb_refl 17 0 false false false T
      have hTx := HT6.out
      have hR0x := HR0.out
      have hcat : (9223372036854775807 < R0.size + more.size) = False := eq_false (by omega)
      have j0 : (6 : Int) ≤ f := by omega
      have j1 : (f : Int) ≤ P.size := by omega
      have j2 : (1 : Int) ≤ (m : Int) + 1 := by omega
      have j3 : (m : Int) + 1 ≤ c := by omega
      have j4 : (1 : Int) ≤ c := by omega
      have j6 : (0 : Int) ≤ (f : Int) + 6 := by omega
      have w8 : IntKind.i64.wrap ((f : Int) + 6) = (f : Int) + 6 := by rw [IntKind.wrap_i64]; omega
      go_cut [61] (fun v wx => v = .bool false ∧ Hid (Below w.heap.size w wx))
      case first =>
        by_cases hc1 : c = 1
        · subst hc1
          have hm0' : m ≤ 0 := by omega
          go_region_held3 (fun w' => w'.cell? ad = some (.int .i64 17) ∧ w'.cell? ⟨ad.block, ad.off + 1, none⟩ = some (.int .i32 0) ∧ w'.cell? ⟨ad.block, ad.off + 2, none⟩ = some (.bool false) ∧ w'.cell? ⟨ad.block, ad.off + 3, none⟩ = some (.bool false) ∧ w'.cell? ⟨ad.block, ad.off + 4, none⟩ = some (.bool false) ∧ w'.cell? ⟨ad.block, ad.off + 5, none⟩ = some (.string T)) (first | exact z1 | go_keep)
            (first
              | (go_at_call 14; rw [HRR.out]; (with_reducible refine (decode_all R hRs _ (HT.out.below (bel_drew HB2.out))).mono ?_); rintro e wz ⟨v, rfl, ho, hb⟩; rw [HK1.out] at ho; obtain ⟨A5, c5, rfl, hc5, hC5⟩ := own_Cn ho HM1.out; have HBz := Lib.hid (bel_call (bel_drew HB2.out) hb); have HCz := Lib.hid (Ck_below (Ck_below HC.out (bel_drew (Below.refl _ _))) hb); have z1 := head6 HCz.out)
              | (go_at_call 18; (with_reducible refine (same_z K1 m HM1.out hm0' (some ad) A5 c5 _ hC5 hc5).mono ?_); rintro e wy ⟨rfl, nd, rfl⟩))
          all_goals (go_wp2_with fail; go_meet; exact ⟨rfl, Lib.hid (bel_drewN HBz.out _)⟩)
        · have hcn : m ≤ c - 1 := by omega
          go_region_held3 (fun w' => w'.cell? ad = some (.int .i64 17) ∧ w'.cell? ⟨ad.block, ad.off + 1, none⟩ = some (.int .i32 0) ∧ w'.cell? ⟨ad.block, ad.off + 2, none⟩ = some (.bool false) ∧ w'.cell? ⟨ad.block, ad.off + 3, none⟩ = some (.bool false) ∧ w'.cell? ⟨ad.block, ad.off + 4, none⟩ = some (.bool false) ∧ w'.cell? ⟨ad.block, ad.off + 5, none⟩ = some (.string T)) (first | exact z1 | go_keep)
            (first
              | (go_at_call 14; rw [HRR.out]; (with_reducible refine (decode_all R hRs _ (HT.out.below (bel_drew HB2.out))).mono ?_); rintro e wz ⟨v, rfl, ho, hb⟩; rw [HK1.out] at ho; obtain ⟨A5, c5, rfl, hc5, hC5⟩ := own_Cn ho HM1.out; have HBz := Lib.hid (bel_call (bel_drew HB2.out) hb); have HCz := Lib.hid (Ck_below (Ck_below HC.out (bel_drew (Below.refl _ _))) hb); have z1 := head6 HCz.out)
              | (go_at_call 18; (with_reducible refine (same_n K1 m HM1.out hmb (some ⟨ad.block, ad.off + 6, none⟩) A5 (c - 1) c5 _ (C_tail6 HCz.out HM1.out) hcn hC5 hc5).mono ?_); rintro e wy ⟨rfl, nd, rfl⟩))
          all_goals (go_wp2_with fail; go_meet; exact ⟨rfl, Lib.hid (bel_drewN HBz.out _)⟩)
      case rest =>
        obtain ⟨rfl, hBc⟩ := hcut
        clear HC HB2 k0 k1 k2 k3 k4 k5 hee hTx hR0x hcat j0 j1 j2 j3 j4 j6 w8 hm0 hmi i0 i1 i2 i3 HPK HT6 HRR HK1 HM1 HL1 HR0 HY hf6 hfs hc hmb hRs hYs hR0s
        obtain ⟨U, hU⟩ : ∃ U, unitsOf s.data.toList = U := ⟨_, rfl⟩
        obtain ⟨L, hL⟩ : ∃ L, keysOf true s.data.toList = L := ⟨_, rfl⟩
        obtain ⟨n, hn⟩ : ∃ n, U.length = n := ⟨_, rfl⟩
        obtain ⟨ln, hln⟩ : ∃ ln, L.length = ln := ⟨_, rfl⟩
        have hnb : n ≤ 100000000 := by
          have := units_len s.data.toList.length s.data.toList (Nat.le_refl _)
          rw [hU, hn, size_len] at this; omega
        have hlb : ln ≤ 100000000 := by
          have := keys_len true s.data.toList
          rw [hL, hln, size_len] at this; omega
        have HU := Lib.hid hU
        have HL := Lib.hid hL
        have HN := Lib.hid hn
        have HLN := Lib.hid hln
        have hti : Hid (TI s.data.toList U L 0 0) := (hU ▸ hL ▸ TI.start s.data.toList : TI s.data.toList U L 0 0)
        clear hU hL hn hln
        go_wp2_with (first
          | (go_at_call 15; (with_reducible refine (Un.units_calls s hs' _ (HT.out.below hBc.out)).mono ?_); rintro e w2 ⟨v, rfl, ho, hb⟩; rw [HU.out, HN.out] at ho; obtain ⟨A8, c8, rfl, hc8, hrow⟩ := un_row ho HN.out; have HB2 := Lib.hid (bel_call hBc.out hb); have HR8 := Lib.hid hrow; clear ho hb hrow)
          | (go_at_call 14; (with_reducible refine (decode_all s hs' _ (HT.out.below HB2.out)).mono ?_); rintro e w3 ⟨v, rfl, ho, hb⟩; rw [HL.out] at ho; obtain ⟨A7, c7, rfl, hc7, hC7⟩ := own_Cn ho HLN.out; have HB3 := Lib.hid (bel_call HB2.out hb); have HB23 := Lib.hid hb; have HC7 := Lib.hid hC7; clear ho hb hC7))
        go_loopw [9, 10] (fun v9 v10 wr => ∃ x o : Nat, v10 = .int .i64 x ∧ v9 = .int .i64 o ∧ x ≤ n ∧ o ≤ s.size ∧ Hid (TI s.data.toList U L x o) ∧ Hid (Below w3.heap.size w3 wr)) (fun _ v10 _ => n - (intOf v10).toNat)
        case atStart => exact ⟨0, 0, rfl, rfl, Nat.zero_le _, Nat.zero_le _, hti.out, Below.refl _ _⟩
        case round =>
          clear hti
          obtain ⟨x, o, rfl, rfl, hx, hos, hti, hB⟩ := hrel
          by_cases hlt : x < n
          · obtain ⟨ha, c, k, hu, -, hk1, hok, himp⟩ := hti.out.at (by rw [HN.out]; exact hlt)
            have hol : o < s.size := by rw [← size_len]; exact ha
            have hse : s.data.toList[o] = s[o] := rfl
            rw [hse] at himp
            have b0 : (0 : Int) ≤ o := by omega
            have b1 : (o : Int) < s.size := by omega
            have hB2 := bel_call HB23.out hB.out
            obtain ⟨adU, eU, u0, u1⟩ := HR8.out wr hB2 x (c, k) hu
            subst eU
            simp only at u0 u1
            have xi : (x : Int) < n := by omega
            clear hse
            by_cases h32 : (s[o].toNat : Int) < 32
            · clear himp hu
              go_wp2
              go_ret
              exact ⟨rfl, bel_call HB3.out hB.out⟩
            by_cases h127 : (s[o].toNat : Int) = 127
            · have q1 : ((s[o].toNat : Int) == 127) = true := beq_true_i h127
              clear himp hu h127
              go_wp2
              go_ret
              exact ⟨rfl, bel_call HB3.out hB.out⟩
            have q1 : ((s[o].toNat : Int) == 127) = false := beq_false_i h127
            obtain ⟨hLx, hti2⟩ := himp (by omega) (by omega)
            have hxl : x < ln := by rw [← HLN.out]; exact (List.getElem?_eq_some_iff.mp hLx).1
            have HTI := Lib.hid hti2
            have xl : (x : Int) < ln := by omega
            have x0 : (0 : Int) ≤ x := by omega
            have qx : decide ((ln : Int) ≤ (x : Int)) = false := by rw [decide_eq_false_iff_not]; omega
            have qx' : decide (ln ≤ x) = false := by rw [decide_eq_false_iff_not]; omega
            have HU5 := Lib.hid hu
            rw [size_len] at hok
            obtain ⟨adK, eK, -⟩ := HC7.out.2.2 (by omega)
            subst eK
            clear himp hti2 hu h127
            by_cases hc : c < 0
            · rw [if_pos hc] at hLx
              have HLX := Lib.hid hLx
              have qc : decide (c < 0) = true := by rw [decide_eq_true_eq]; exact hc
              obtain ⟨T1, hT1⟩ : ∃ T1, s.extract o (o + 1) = T1 := ⟨_, rfl⟩
              have hT1e : T1 = ⟨[s[o]].toArray⟩ := ext_data (by
                rw [← hT1, mid_ext, List.drop_eq_getElem_cons (by rw [size_len]; exact hol)]
                rfl)
              have HT1 := Lib.hid hT1e
              have b2 : 0 ≤ (o : Int) + 1 := by omega
              have b3 : (o : Int) + 1 ≤ s.size := by omega
              have b4 : (o : Int) ≤ (o : Int) + 1 := by omega
              have n2 : ((o : Int) + 1).toNat = o + 1 := by omega
              obtain ⟨ad6, eU6, v0, v1⟩ := HR8.out (wr.alloc (.cells #[.int .i64 1, .int .i32 c, .bool false, .bool false, .bool false, .string ⟨#[]⟩] 50)) (bel_call HB23.out (bel_alloc hB.out _)) x (c, k) HU5.out
              cases eU6
              simp only at v0 v1
              clear hLx hT1e
              go_upto_region 21 with fail
              obtain ⟨w5, hw5⟩ : ∃ w5, wr.alloc (.cells #[.int .i64 4, .int .i32 0, .bool false, .bool false, .bool false, .string T1] 50) = w5 := ⟨_, rfl⟩
              obtain ⟨g5, hg5⟩ : ∃ g5, wr.heap.size = g5 := ⟨_, rfl⟩
              have HB5 : Hid (Below w3.heap.size w3 w5) := hw5 ▸ bel_alloc hB.out _
              have hX5 : K6 w5 g5 4 0 false false false [s[o]] := hg5 ▸ hw5 ▸ (HT1.out ▸ K6.alloc wr 4 0 false false false [s[o]])
              rw [hw5, hg5]
              clear hw5 hg5 u0 u1 v0 v1 hT1
              obtain ⟨ad5, eU5, u0, u1⟩ := HR8.out w5 (bel_call HB23.out HB5.out) x (c, k) HU5.out
              cases eU5
              simp only at u0 u1
              have y6 := key6 (Ck_below HC7.out HB5.out) HLX.out
              have hee := eqb_refl 4 0 false false false T1
              obtain ⟨kA, kB, kC, kD, kE, kF⟩ := y6
              obtain ⟨bA, bB, bC, bD, bE, bF⟩ := hX5
              simp only at kA kB kC kD kE kF
              rw [← HT1.out] at kF bF
              go_region_held3 (fun w' => (w'.cell? (adK.add (x * 6)) = some (.int .i64 4) ∧ w'.cell? ⟨(adK.add (x * 6)).block, (adK.add (x * 6)).off + 1, none⟩ = some (.int .i32 0) ∧ w'.cell? ⟨(adK.add (x * 6)).block, (adK.add (x * 6)).off + 2, none⟩ = some (.bool false) ∧ w'.cell? ⟨(adK.add (x * 6)).block, (adK.add (x * 6)).off + 3, none⟩ = some (.bool false) ∧ w'.cell? ⟨(adK.add (x * 6)).block, (adK.add (x * 6)).off + 4, none⟩ = some (.bool false) ∧ w'.cell? ⟨(adK.add (x * 6)).block, (adK.add (x * 6)).off + 5, none⟩ = some (.string T1)) ∧ (w'.cell? ⟨g5, 0, none⟩ = some (.int .i64 4) ∧ w'.cell? ⟨g5, 1, none⟩ = some (.int .i32 0) ∧ w'.cell? ⟨g5, 2, none⟩ = some (.bool false) ∧ w'.cell? ⟨g5, 3, none⟩ = some (.bool false) ∧ w'.cell? ⟨g5, 4, none⟩ = some (.bool false) ∧ w'.cell? ⟨g5, 5, none⟩ = some (.string T1))) (go_keep) (fail)
              clear kA kB kC kD kE kF bA bB bC bD bE bF
              go_upto_region 23 with fail
              go_wp2
              go_roundw
              case rel => exact ⟨x + 1, o + k, by go_num, by go_num, by omega, by omega, HTI.out, bel_drew HB5.out⟩
              case measure => simp [intOf]; omega
            · rw [if_neg hc] at hLx
              have HLX := Lib.hid hLx
              have qc : decide (c < 0) = false := by rw [decide_eq_false_iff_not]; exact hc
              clear hLx
              go_upto_region 19 with fail
              obtain ⟨w5, hw5⟩ : ∃ w5, wr.alloc (.cells #[.int .i64 1, .int .i32 c, .bool false, .bool false, .bool false, .string ⟨#[]⟩] 50) = w5 := ⟨_, rfl⟩
              obtain ⟨g5, hg5⟩ : ∃ g5, wr.heap.size = g5 := ⟨_, rfl⟩
              have HB5 : Hid (Below w3.heap.size w3 w5) := hw5 ▸ bel_alloc hB.out _
              have HX5 : Hid (K6 w5 g5 1 c false false false []) := hg5 ▸ hw5 ▸ K6.alloc wr 1 c false false false []
              rw [hw5, hg5]
              clear hw5 hg5 u0 u1
              obtain ⟨ad5, eU5, u0, u1⟩ := HR8.out w5 (bel_call HB23.out HB5.out) x (c, k) HU5.out
              cases eU5
              simp only at u0 u1
              have y6 := key6 (Ck_below HC7.out HB5.out) HLX.out
              have z6 := HX5.out
              have hee := eqb_refl 1 c false false false ⟨#[]⟩
              obtain ⟨kA, kB, kC, kD, kE, kF⟩ := y6
              obtain ⟨bA, bB, bC, bD, bE, bF⟩ := z6
              go_upto_region 21 with fail
              go_region_held3 (fun w' => (w'.cell? (adK.add (x * 6)) = some (.int .i64 1) ∧ w'.cell? ⟨(adK.add (x * 6)).block, (adK.add (x * 6)).off + 1, none⟩ = some (.int .i32 c) ∧ w'.cell? ⟨(adK.add (x * 6)).block, (adK.add (x * 6)).off + 2, none⟩ = some (.bool false) ∧ w'.cell? ⟨(adK.add (x * 6)).block, (adK.add (x * 6)).off + 3, none⟩ = some (.bool false) ∧ w'.cell? ⟨(adK.add (x * 6)).block, (adK.add (x * 6)).off + 4, none⟩ = some (.bool false) ∧ w'.cell? ⟨(adK.add (x * 6)).block, (adK.add (x * 6)).off + 5, none⟩ = some (.string ⟨#[]⟩)) ∧ (w'.cell? ⟨g5, 0, none⟩ = some (.int .i64 1) ∧ w'.cell? ⟨g5, 1, none⟩ = some (.int .i32 c) ∧ w'.cell? ⟨g5, 2, none⟩ = some (.bool false) ∧ w'.cell? ⟨g5, 3, none⟩ = some (.bool false) ∧ w'.cell? ⟨g5, 4, none⟩ = some (.bool false) ∧ w'.cell? ⟨g5, 5, none⟩ = some (.string ⟨#[]⟩))) (go_keep) (fail)
              clear kA kB kC kD kE kF bA bB bC bD bE bF
              go_upto_region 23 with fail
              go_wp2
              go_roundw
              case rel => exact ⟨x + 1, o + k, by go_num, by go_num, by omega, by omega, HTI.out, bel_drew HB5.out⟩
              case measure => simp [intOf]; omega
          · have hxn : x = n := by omega
            have hle : ln = n := by
              have h1 := hti.out
              rw [hxn, ← HN.out] at h1
              have h2 := h1.end'
              rw [HLN.out, HN.out] at h2
              exact h2
            have hge : (n : Int) ≤ x := by omega
            have q : ((ln : Int) == (n : Int)) = true := beq_true_i (by omega)
            clear hxn hle
            go_wp2
            go_ret
            exact ⟨rfl, bel_call HB3.out hB.out⟩
    · have hlt : f < s.size + 6 := by
        rcases Nat.lt_or_ge f (s.size + 6) with h | h
        · exact h
        · exact absurd (show Go.Lib.occAt (s.data.toList ++ pend) pend (f - 6) = true from by rw [show f - 6 = s.data.toList.length from by rw [size_len]; omega]; exact occ_last _) ho
      have hXn : (X.toList == [27, 91, 50, 48, 49, 126]) = false := by
        rw [beq_eq_false_iff_ne]
        intro e
        rw [Lib.toList_data, hXd] at e
        exact ho (occ_iff.mpr e)
      have hXm : ¬ X.toList = [27, 91, 50, 48, 49, 126] := by simpa using hXn
      have HN : Hid (Go.Lib.NoOcc (s.data.toList ++ pend) pend (f - 6 + 1)) := hno.out.succ (by simpa using ho)
      clear hXd ho
      go_wp2
      exact ⟨⟨f + 1, by go_num, by omega, by omega, (by show Go.Lib.NoOcc _ _ _; rw [show f + 1 - 6 = f - 6 + 1 from by omega]; exact HN.out), trivial⟩, by simp [intOf]; omega⟩
end Go.Proofs.YtjjilhfebkeoeaaDoor.Ky
