/- KeysBack: the law's walk. -/
import Derived.Test.YtjjilhfebkeoeaaDoorKzA
import Derived.Test.YtjjilhfebkeoeaaDoorKzC
import Derived.Deep.DeepCutAuto
namespace Go.Proofs.YtjjilhfebkeoeaaDoor.Ky
open Go Go.RowKit Go.Proofs.YtjjilhfebkeoeaaDoor.PKy
open Go.Proofs.YtjjilhfebkeoeaaDoorW.PrintWords (bt rdOf Kd Drawn0 Reps Aside0)
open Go.Proofs.YtjjilhfebkeoeaaDoor.Wk (bcell bel_drew bel_drewN bel_alloc bel_set bel_call size_len mk_data beq_true_i bne_true_i bne_false_i beq_false_i drop_cons var_below blk_alloc blk_below blk_drewN blk_cell blk_frozen blk_far blk_set blk_lt own_slice own_below cells_new)
set_option linter.unusedVariables false
set_option linter.unusedSimpArgs false
/-- The boxed key's six cells. -/
structure Bx (W : World) (g : Nat) (kind char : Int) (ct mt sh : Bool) (t : ByteArray) : Prop where
  b : W.heap[g]? = some (.cells #[.int .i64 kind, .int .i32 char, .bool ct, .bool mt, .bool sh, .string t] 50 (0, 0))
theorem Bx.c {W : World} {g : Nat} {kind char : Int} {ct mt sh : Bool} {t : ByteArray} (h : Bx W g kind char ct mt sh t) :
    W.cell? ⟨g, 0, none⟩ = some (.int .i64 kind) ∧ W.cell? ⟨g, 1, none⟩ = some (.int .i32 char) ∧ W.cell? ⟨g, 2, none⟩ = some (.bool ct) ∧ W.cell? ⟨g, 3, none⟩ = some (.bool mt) ∧ W.cell? ⟨g, 4, none⟩ = some (.bool sh) ∧ W.cell? ⟨g, 5, none⟩ = some (.string t) :=
  ⟨blk_cell h.b 0, blk_cell h.b 1, blk_cell h.b 2, blk_cell h.b 3, blk_cell h.b 4, blk_cell h.b 5⟩
theorem Bx.al {W : World} {g : Nat} {kind char : Int} {ct mt sh : Bool} {t : ByteArray} (h : Bx W g kind char ct mt sh t) (o : Obj) : Bx (W.alloc o) g kind char ct mt sh t := ⟨Wk.blk_alloc h.b o⟩
theorem Bx.dr {W : World} {g : Nat} {kind char : Int} {ct mt sh : Bool} {t : ByteArray} (h : Bx W g kind char ct mt sh t) : Bx W.drew g kind char ct mt sh t := ⟨h.b⟩
theorem Bx.bel {W W1 : World} {g : Nat} {kind char : Int} {ct mt sh : Bool} {t : ByteArray} (h : Bx W g kind char ct mt sh t) (hb : Below W.heap.size W W1) : Bx W1 g kind char ct mt sh t := ⟨blk_below h.b hb⟩
theorem bytes_two (k : Key) (b : List UInt8) (ok : Bool) (h : bytesOf k = (b, ok)) : (ok = true → keysOf true b = [k] ∧ form k = b) ∧ (ok = false → b = []) := by
  unfold bytesOf at h
  by_cases h0 : form k = [] ∨ keysOf true (form k) ≠ [k]
  · rw [if_pos h0, Prod.mk.injEq] at h
    obtain ⟨rfl, rfl⟩ := h
    exact ⟨(fun h => by cases h), fun _ => rfl⟩
  · rw [if_neg h0, Prod.mk.injEq] at h
    obtain ⟨rfl, rfl⟩ := h
    exact ⟨fun _ => ⟨Classical.byContradiction fun g => h0 (.inr g), rfl⟩, (fun h => by cases h)⟩
/-- Bytes, over the cells of a key. -/
theorem bytes_kx (kind char : Int) (ct mt sh : Bool) (text : List UInt8) (B : ByteArray) (ok : Bool) (hB : bytesOf ⟨kind, char, ct, mt, sh, text⟩ = (B.data.toList, ok)) (w : World) (hT : Tb w) (hl : text.length ≤ 999999900) (hc0 : -2147483648 ≤ char) (hc1 : char ≤ 2147483647) :
    Calls Tryd.prog 24 #[.agg #[.int .i64 kind, .int .i32 char, .bool ct, .bool mt, .bool sh, .string ⟨text.toArray⟩]] w fun e w' => e = .returned (.tuple #[.string B, .bool ok]) ∧ Below w.heap.size w w' := by
  have h := bytes_calls ⟨kind, char, ct, mt, sh, text⟩ w hT hl hc0 hc1
  unfold BPost at h
  rw [hB] at h
  exact h
theorem lead0_len (k : Key) : (lead0 k).length ≤ k.text.length + 100 := by
  have h1 := encL_len k.char
  have h2 := ctl_len k.char
  have h3 := seqL_len k
  unfold lead0
  repeat' split
  all_goals (try simp only [List.length_append, pbeg, pend, List.length_cons, List.length_nil])
  all_goals omega
theorem form_len (k : Key) : (form k).length ≤ k.text.length + 101 := by
  have := lead0_len k
  unfold form
  split <;> (try simp only [List.length_cons]) <;> omega
theorem kx_back {l : List UInt8} {P : List (List UInt8)} {K : List Key} {x : Nat} (hP : piecesOf true l = P) (hK : keysOf true l = K) (hx : x < P.length) (hk : x < K.length) :
    bytesOf K[x] = (form K[x], true) ∧ keysOf true (form K[x]) = [K[x]] ∧ (bare K[x] → form K[x] = P[x]) ∧ K[x].text.length ≤ l.length ∧ -1 ≤ K[x].char ∧ K[x].char ≤ 1114111 ∧ (form K[x]).length ≤ l.length + 101 := by
  subst hP hK
  have hr : x < (run true l).1.length := by unfold piecesOf at hx; rwa [List.length_map] at hx
  have hq := run_each l.length l (Nat.le_refl _) (run true l).1[x] (List.getElem_mem hr)
  have e1 : (piecesOf true l)[x] = (run true l).1[x].2 := by simp [piecesOf]
  have e2 : (keysOf true l)[x] = (run true l).1[x].1 := by simp [keysOf]
  have hb := rd_back _ hq.1
  have hs := sm_keys l.length l (Nat.le_refl _) (keysOf true l)[x] (List.getElem_mem hk)
  have hf := form_len (keysOf true l)[x]
  rw [hq.2, List.take_length] at hb
  rw [← e1, ← e2] at hb
  exact ⟨hb.1, hb.2.1, hb.2.2, hs.1, hs.2.1, hs.2.2, by have := hs.1; omega⟩
theorem bare_dec (k : Key) : bare k ∨ (k.kind ≠ 1 ∧ k.kind ≠ 2 ∧ k.kind ≠ 3 ∧ k.kind ≠ 4 ∧ k.kind ≠ 18) := by unfold bare; omega
set_option maxHeartbeats 8000000 in
set_option maxRecDepth 1000000 in
theorem back_calls (k : Key) (s : ByteArray) (hk : k.text.length ≤ 100000000) (hc0 : -2147483648 ≤ k.char) (hc1 : k.char ≤ 2147483647) (hs : s.size ≤ 100000000) (w : World) (hT : Tb w) :
    Calls Tryd.prog 7 #[keyV k, .string s] w fun e w' => e = .returned (.bool true) ∧ Below w.heap.size w w' := by
  obtain ⟨kind, char, ct, mt, sh, text⟩ := k
  have HT := Lib.hid hT
  have hs' : s.size ≤ 1000000000 := by omega
  obtain ⟨b, ok, hb⟩ : ∃ b ok, bytesOf ⟨kind, char, ct, mt, sh, text⟩ = (b, ok) := ⟨_, _, rfl⟩
  obtain ⟨B, hBB⟩ : ∃ B, ByteS b = B := ⟨_, rfl⟩
  have hBd : B.data.toList = b := by rw [← hBB]; exact held_B b
  have h2 := bytes_two _ b ok hb
  have hfl := form_len ⟨kind, char, ct, mt, sh, text⟩
  rw [← hBd] at hb h2
  have hBs : B.size ≤ 1000000000 := by
    rw [← size_len]
    cases ok with
    | false => rw [h2.2 rfl]; simp
    | true => rw [← (h2.1 rfl).2]; simp only at hfl hk; omega
  have hk' : text.length ≤ 999999900 := by simp only at hk; omega
  have HB := Lib.hid hb
  have H2 := Lib.hid h2
  clear hT hb h2 hfl hBd hBB hk
  go_enter Tryd.func7, Tryd.ntmps7
  go_upto_region 4 with (first
    | (go_at_call 16; (with_reducible refine (fixed_calls _ (HT.out.below (bel_a w _))).mono ?_); rintro e w1 ⟨rfl, hb⟩; have HB1 := Lib.hid (bel_call (bel_a w _) hb); have HK1 : Hid (Bx w1 w.heap.size kind char ct mt sh ⟨text.toArray⟩) := ⟨blk_below (heap_alloc_new w _) hb⟩; obtain ⟨d0, d1, d2, d3, d4, d5⟩ := HK1.out.c; clear hb)
    | (go_at_call 24; (with_reducible refine (bytes_kx kind char ct mt sh text B ok HB.out _ (HT.out.below HB1.out) hk' hc0 hc1).mono ?_); rintro e w2 ⟨rfl, hb⟩; have HB2 := Lib.hid (bel_call HB1.out hb); have HK2 : Hid (Bx w2 w.heap.size kind char ct mt sh ⟨text.toArray⟩) := ⟨blk_below HK1.out.b hb⟩; clear hb d0 d1 d2 d3 d4 d5))
  go_cut [36] (fun v wc => v = .bool false ∧ Hid (Below w.heap.size w wc))
  case first =>
    cases ok with
    | false =>
      have hn := H2.out.2 rfl
      have e0 : B.toList = [] := by rw [Lib.toList_data]; exact hn
      go_region
      all_goals (go_wp2_with fail; go_meet; exact ⟨rfl, Lib.hid (bel_drew HB2.out)⟩)
    | true =>
      have HQ1 := Lib.hid (H2.out.1 rfl).1
      have h1b : 1 ≤ 1000000000 := by decide
      have HL : Hid (∀ W : World, Kd.C k50 (W.alloc (.cells #[.int .i64 kind, .int .i32 char, .bool ct, .bool mt, .bool sh, .string ⟨text.toArray⟩] 50)) (some ⟨W.heap.size, 0, none⟩) 1 ([(⟨kind, char, ct, mt, sh, text⟩ : Key)].map toS)) := fun W => lit_C (L := [⟨kind, char, ct, mt, sh, text⟩]) (heap_alloc_new W _) h1b
      obtain ⟨d0, d1, d2, d3, d4, d5⟩ := HK2.out.c
      first
      | (go_region_with (first
          | (go_at_call 14; (with_reducible refine (decode_all B hBs _ (HT.out.below (bel_drew HB2.out))).mono ?_); rintro e wz ⟨v, rfl, ho, hb⟩; rw [HQ1.out] at ho; obtain ⟨A5, c5, rfl, hc5, hC5⟩ := own_Cn (n := 1) ho rfl; have HKz := Lib.hid (HK2.out.dr.bel hb); obtain ⟨z0, z1, z2, z3, z4, z5⟩ := HKz.out.c; have HBz := Lib.hid (bel_call (bel_drew HB2.out) hb))
          | (go_at_call 14; (with_reducible refine (decode_all B hBs _ (HT.out.below (bel_drew (bel_alloc HB2.out _)))).mono ?_); rintro e wz ⟨v, rfl, ho, hb⟩; rw [HQ1.out] at ho; obtain ⟨A5, c5, rfl, hc5, hC5⟩ := own_Cn (n := 1) ho rfl; have HKz := Lib.hid ((HK2.out.al _).dr.bel hb); obtain ⟨z0, z1, z2, z3, z4, z5⟩ := HKz.out.c; have HBz := Lib.hid (bel_call (bel_drew (bel_alloc HB2.out _)) hb); have HLz := Lib.hid (Ck_below (Ck_below (HL.out w2) (bel_drew (Below.refl _ _))) hb))
          | (go_at_call 18; (with_reducible refine (same_n [⟨kind, char, ct, mt, sh, text⟩] 1 rfl h1b A5 _ c5 1 _ hC5 hc5 HLz.out (Nat.le_refl _)).mono ?_); rintro e wy ⟨rfl, nd, rfl⟩; have HB5 := Lib.hid HBz.out)
          | (go_at_call 18; (with_reducible refine (same_n [⟨kind, char, ct, mt, sh, text⟩] 1 rfl h1b A5 _ c5 1 _ (Ck_below hC5 (bel_a _ _)) hc5 (HL.out wz) (Nat.le_refl _)).mono ?_); rintro e wy ⟨rfl, nd, rfl⟩; have HB5 := Lib.hid (bel_alloc HBz.out (.cells #[.int .i64 kind, .int .i32 char, .bool ct, .bool mt, .bool sh, .string ⟨text.toArray⟩] 50)))))
      | skip
      all_goals (go_wp2_with fail; go_meet; exact ⟨rfl, Lib.hid (bel_drewN HB5.out _)⟩)
  case rest =>
    obtain ⟨rfl, hBc⟩ := hcut
    clear HB H2 HK1 HK2 HB1 HB2
    obtain ⟨K, hK⟩ : ∃ K, keysOf true s.data.toList = K := ⟨_, rfl⟩
    obtain ⟨P, hP⟩ : ∃ P, piecesOf true s.data.toList = P := ⟨_, rfl⟩
    obtain ⟨n, hn⟩ : ∃ n, P.length = n := ⟨_, rfl⟩
    have hKn : K.length = n := by rw [← hK, ← hn, ← hP]; exact pk_len _
    have hnb : n ≤ 100000000 := by
      have := keys_len true s.data.toList
      rw [hK, hKn, size_len] at this; omega
    have HK := Lib.hid hK
    have HP := Lib.hid hP
    have HN := Lib.hid hn
    have HKN := Lib.hid hKn
    have qn : ((n : Int) != (n : Int)) = false := bne_false_i rfl
    clear hK hP hn hKn
    go_wp2_with (first
      | (go_at_call 14; (with_reducible refine (decode_all s hs' _ (HT.out.below hBc.out)).mono ?_); rintro e w2 ⟨v, rfl, ho, hb⟩; rw [HK.out] at ho; obtain ⟨A, c, rfl, hc, hC⟩ := own_Cn ho HKN.out; have HB2 := Lib.hid (bel_call hBc.out hb); have HC := Lib.hid hC; clear ho hC hb)
      | (go_at_call 23; (with_reducible refine (split_calls s hs' _ (HT.out.below HB2.out)).mono ?_); rintro e w3 ⟨v, rfl, ho, hb⟩; rw [HP.out] at ho; obtain ⟨A3, c3, rfl, hc3, hC3⟩ := ownS_Cn ho HN.out; have HB3 := Lib.hid (bel_call HB2.out hb); have HC2 := Lib.hid (Ck_below HC.out hb); have HC3 := Lib.hid hC3; clear ho hC3 hb))
    go_loopw [9] (fun v9 wr => ∃ x : Nat, v9 = .int .i64 x ∧ x ≤ n ∧ Hid (Below w3.heap.size w3 wr)) (fun v9 _ => n - (intOf v9).toNat)
    case atStart => exact ⟨0, rfl, Nat.zero_le _, Below.refl _ _⟩
    case round =>
      obtain ⟨x, rfl, hx, hB⟩ := hrel
      by_cases hlt : x < n
      · have hxP : x < P.length := by rw [HN.out]; exact hlt
        have hxK : x < K.length := by rw [HKN.out]; exact hlt
        obtain ⟨p1, p2, p3, p4, p5, p6, p7⟩ := kx_back HP.out HK.out hxP hxK
        rw [size_len] at p4 p7
        obtain ⟨ad, ea, hcell⟩ := Kd.at_string (Cs_below HC3.out hB.out) (x : Int) (by omega) (by omega)
        subst ea
        have hrd : rdOf ByteArray.empty (P.map ByteS) (x : Int) = ByteS P[x] := by
          unfold rdOf; rw [Int.toNat_natCast, List.getD_eq_getElem?_getD, List.getElem?_map, List.getElem?_eq_getElem hxP]; rfl
        rw [hrd, Int.toNat_natCast] at hcell
        obtain ⟨adK, eK, k0, k1, k2, k3, k4, k5⟩ := at_T50 (Ck_below HC2.out hB.out) (x : Int) (by omega) (by omega)
        subst eK
        have hrk : rd_T50 (K.map toS) (x : Int) = toS K[x] := by
          unfold rd_T50; rw [Int.toNat_natCast, List.getD_eq_getElem?_getD, List.getElem?_map, List.getElem?_eq_getElem hxK]; rfl
        have hxk : Hid ((K.map toS)[x]? = some (toS K[x])) := (by rw [List.getElem?_map, List.getElem?_eq_getElem hxK]; rfl : (K.map toS)[x]? = some (toS K[x]))
        rw [hrk, Int.toNat_natCast] at k0 k1 k2 k3 k4 k5
        obtain ⟨Q, hQ⟩ : ∃ Q, ByteS P[x] = Q := ⟨_, rfl⟩
        have hQd : Q.data.toList = P[x] := by rw [← hQ]; exact held_B _
        rw [hQ] at hcell
        rw [← hQd] at p3
        obtain ⟨kx, hkx⟩ : ∃ kx, K[x] = kx := ⟨_, rfl⟩
        rw [hkx] at hxk p1 p2 p3 p4 p5 p6 p7 k0 k1 k2 k3 k4 k5
        clear hrd hrk hQ hQd hkx hxP hxK
        obtain ⟨kd, ch, ct', mt', sh', tx⟩ := kx
        simp only [toS] at k0 k1 k2 k3 k4 k5
        simp only at p4 p5 p6
        obtain ⟨F, hF⟩ : ∃ F, ByteS (form ⟨kd, ch, ct', mt', sh', tx⟩) = F := ⟨_, rfl⟩
        have hFd : F.data.toList = form ⟨kd, ch, ct', mt', sh', tx⟩ := by rw [← hF]; exact held_B _
        rw [← hFd] at p1 p2 p3 p7
        rw [size_len] at p7
        have hFb : F.size ≤ 1000000000 := by omega
        have htx : tx.length ≤ 999999900 := by omega
        have q5 : -2147483648 ≤ ch := by omega
        have q6 : ch ≤ 2147483647 := by omega
        have HQ1 := Lib.hid p1
        have HQ2 := Lib.hid p2
        have HQ3 := Lib.hid p3
        clear hF hFd p1 p2 p3 p4 p5 p6 p7
        have cx : ¬ c = x := by omega
        have hcx : 1 ≤ c - x := by omega
        have xi : (x : Int) < n := by omega
        have xc : (x : Int) + 1 ≤ c := by omega
        have b2 : 0 ≤ (x : Int) + 1 := by omega
        have n2 : ((x : Int) + 1).toNat = x + 1 := by omega
        go_upto_region 13 with (go_at_call 24; (with_reducible refine (bytes_kx kd ch ct' mt' sh' tx F true HQ1.out _ (HT.out.below (bel_call HB3.out hB.out)) htx q5 q6).mono ?_); rintro e wz ⟨rfl, hb⟩; have HBz := Lib.hid (bel_call hB.out hb); have y0 := (hb.cell (World.block_lt_of_cell? _ _ hcell)).trans hcell; have y1 := (hb.cell (World.block_lt_of_cell? _ _ k0)).trans k0; clear hb)
        clear k0 k1 k2 k3 k4 k5 hcell
        have w3' : IntKind.i64.wrap ((x : Int) + 1) = (x : Int) + 1 := by rw [IntKind.wrap_i64]; omega
        go_region_held3 (fun w' => w'.cell? (ad.add x) = some (.string Q) ∧ w'.cell? (adK.add (x * 6)) = some (.int .i64 kd)) (first | exact z1 | exact ⟨y0, y1⟩ | go_keep)
          (first
            | (go_at_call 14; (with_reducible refine (decode_all F hFb _ (HT.out.below (bel_drew (bel_call HB3.out HBz.out)))).mono ?_); rintro e w4 ⟨v, rfl, ho, hb⟩; rw [HQ2.out] at ho; obtain ⟨A5, c5, rfl, hc5, hC5⟩ := own_Cn (n := 1) ho rfl; have z1 : w4.cell? (ad.add x) = some (.string Q) ∧ w4.cell? (adK.add (x * 6)) = some (.int .i64 kd) := ⟨(hb.cell (World.block_lt_of_cell? wz _ y0)).trans y0, (hb.cell (World.block_lt_of_cell? wz _ y1)).trans y1⟩; have HB4 := Lib.hid (bel_call (bel_drew HBz.out) hb))
            | (go_at_call 18; (with_reducible refine (same_n [⟨kd, ch, ct', mt', sh', tx⟩] 1 rfl (by decide) A5 (some (adK.add (x * 6))) c5 (c - x) _ hC5 hc5 (C_one' (Ck_below HC2.out HB4.out) hxk.out) hcx).mono ?_); rintro e wy ⟨rfl, nd, rfl⟩))
        clear w3'
        obtain ⟨v0, v1⟩ := z1
        obtain ⟨wu, hwu⟩ : ∃ wu, w4.drewN nd = wu := ⟨_, rfl⟩
        have HBu : Hid (Below w3.heap.size w3 wu) := hwu ▸ bel_drewN HB4.out nd
        have u0 : wu.cell? (ad.add x) = some (.string Q) := hwu ▸ v0
        have u1 : wu.cell? (adK.add (x * 6)) = some (.int .i64 kd) := hwu ▸ v1
        rw [hwu]
        clear hwu v0 v1 y0 y1 hC5 HB4
        go_upto_region 15 with fail
        have hbd := bare_dec ⟨kd, ch, ct', mt', sh', tx⟩
        simp only at hbd
        rcases hbd with hbr | ⟨n1, n2', n3, n4, n18⟩
        · have hFQ : F = Q := ext_data (HQ3.out hbr)
          subst hFQ
          have hkd : kd = 1 ∨ kd = 2 ∨ kd = 3 ∨ kd = 4 ∨ kd = 18 := hbr
          clear hbr HQ3
          have t1 : (kd == 1) = true ∨ (kd == 1) = false ∧ (kd == 2) = true ∨ (kd == 1) = false ∧ (kd == 2) = false ∧ (kd == 3) = true ∨ (kd == 1) = false ∧ (kd == 2) = false ∧ (kd == 3) = false ∧ (kd == 4) = true ∨ (kd == 1) = false ∧ (kd == 2) = false ∧ (kd == 3) = false ∧ (kd == 4) = false ∧ (kd == 18) = true := by
            rcases hkd with rfl | rfl | rfl | rfl | rfl <;> decide
          clear hkd
          rcases t1 with r1 | ⟨r1, r2⟩ | ⟨r1, r2, r3⟩ | ⟨r1, r2, r3, r4⟩ | ⟨r1, r2, r3, r4, r5⟩
          all_goals
            go_wp2
            go_roundw
            case rel => exact ⟨x + 1, by go_num, by omega, HBu.out⟩
            all_goals (try go_num)
            all_goals (show n - ((x : Int) + 1).toNat < n - (x : Int).toNat; omega)
        · have r1 : (kd == 1) = false := beq_false_i n1
          have r2 : (kd == 2) = false := beq_false_i n2'
          have r3 : (kd == 3) = false := beq_false_i n3
          have r4 : (kd == 4) = false := beq_false_i n4
          have r5 : (kd == 18) = false := beq_false_i n18
          clear n1 n2' n3 n4 n18
          go_wp2
          go_roundw
          case rel => exact ⟨x + 1, by go_num, by omega, HBu.out⟩
          all_goals (try go_num)
          all_goals (show n - ((x : Int) + 1).toNat < n - (x : Int).toNat; omega)
      · have hge : (n : Int) ≤ x := by omega
        go_wp2
        go_ret
        exact ⟨rfl, bel_call HB3.out hB.out⟩
end Go.Proofs.YtjjilhfebkeoeaaDoor.Ky
