/- KeysEnds: the law's walk. -/
import Derived.Test.YtjjilhfebkeoeaaDoorKzA
import Derived.Test.YtjjilhfebkeoeaaDoorKzI
import Derived.Deep.DeepCutAuto
namespace Go.Proofs.YtjjilhfebkeoeaaDoor.Ky
open Go Go.RowKit Go.Proofs.YtjjilhfebkeoeaaDoor.PKy
open Go.Proofs.YtjjilhfebkeoeaaDoorW.PrintWords (bt rdOf Kd Drawn0 Reps Aside0)
open Go.Proofs.YtjjilhfebkeoeaaDoor.Wk (bcell bel_drew bel_drewN bel_alloc bel_set bel_call size_len mk_data beq_true_i bne_true_i bne_false_i beq_false_i drop_cons var_below blk_alloc blk_below blk_drewN blk_cell blk_frozen blk_far blk_set blk_lt own_slice own_below cells_new)
set_option linter.unusedVariables false
set_option linter.unusedSimpArgs false
/-- The boxed key's six cells. -/
structure Ex (W : World) (g : Nat) (kind char : Int) (ct mt sh : Bool) (t : ByteArray) : Prop where
  b : W.heap[g]? = some (.cells #[.int .i64 kind, .int .i32 char, .bool ct, .bool mt, .bool sh, .string t] 50 (0, 0))
theorem Ex.c {W : World} {g : Nat} {kind char : Int} {ct mt sh : Bool} {t : ByteArray} (h : Ex W g kind char ct mt sh t) :
    W.cell? ⟨g, 0, none⟩ = some (.int .i64 kind) ∧ W.cell? ⟨g, 1, none⟩ = some (.int .i32 char) ∧ W.cell? ⟨g, 2, none⟩ = some (.bool ct) ∧ W.cell? ⟨g, 3, none⟩ = some (.bool mt) ∧ W.cell? ⟨g, 4, none⟩ = some (.bool sh) ∧ W.cell? ⟨g, 5, none⟩ = some (.string t) :=
  ⟨blk_cell h.b 0, blk_cell h.b 1, blk_cell h.b 2, blk_cell h.b 3, blk_cell h.b 4, blk_cell h.b 5⟩
theorem Ex.al {W : World} {g : Nat} {kind char : Int} {ct mt sh : Bool} {t : ByteArray} (h : Ex W g kind char ct mt sh t) (o : Obj) : Ex (W.alloc o) g kind char ct mt sh t := ⟨Wk.blk_alloc h.b o⟩
theorem Ex.bel {W W1 : World} {g : Nat} {kind char : Int} {ct mt sh : Bool} {t : ByteArray} (h : Ex W g kind char ct mt sh t) (hb : Below W.heap.size W W1) : Ex W1 g kind char ct mt sh t := ⟨blk_below h.b hb⟩
/-- Bytes, over the cells of a key: it ends. -/
theorem ends_bytes (kind char : Int) (ct mt sh : Bool) (text : List UInt8) (B : ByteArray) (ok : Bool) (hB : bytesOf ⟨kind, char, ct, mt, sh, text⟩ = (B.data.toList, ok)) (w : World) (hT : Tb w) (hl : text.length ≤ 999999900) (hc0 : -2147483648 ≤ char) (hc1 : char ≤ 2147483647) :
    Calls Tryd.prog 24 #[.agg #[.int .i64 kind, .int .i32 char, .bool ct, .bool mt, .bool sh, .string ⟨text.toArray⟩]] w fun e w' => e = .returned (.tuple #[.string B, .bool ok]) ∧ Below w.heap.size w w' := by
  have h := bytes_calls ⟨kind, char, ct, mt, sh, text⟩ w hT hl hc0 hc1
  unfold BPost at h
  rw [hB] at h
  exact h
theorem ends_name (kind char : Int) (ct mt sh : Bool) (text : List UInt8) (N : ByteArray) (hN : N = ⟨(nameOf ⟨kind, char, ct, mt, sh, text⟩).toArray⟩) (w : World) (hT : Tb w) (hc0 : -2147483648 ≤ char) (hc1 : char ≤ 2147483647) :
    Calls Tryd.prog 27 #[.agg #[.int .i64 kind, .int .i32 char, .bool ct, .bool mt, .bool sh, .string ⟨text.toArray⟩]] w fun e w' => e = .returned (.string N) ∧ Below w.heap.size w w' := by
  rw [hN]
  exact name_calls ⟨kind, char, ct, mt, sh, text⟩ hc0 hc1 w hT
theorem ends_fed (s : ByteArray) (hs : s.size ≤ 1000000000) (K : List Key) (hK : keysOf false s.data.toList = K) (H : ByteArray) (hH : ByteS (held false s.data.toList) = H) (g c0 : Nat) (hc : 1 ≤ c0) (w : World) (hT : Tb w) (hg : w.heap[g]? = some (.cells #[.string s] 9 (0, 0))) :
    Calls Tryd.prog 17 #[.slice (some ⟨g, 0, none⟩) 1 c0] w fun e w' => ∃ v, e = .returned (.tuple #[v, .string H]) ∧ Own w' w.heap.size v K ∧ Below w.heap.size w w' := by
  subst hK hH
  exact fed_one s hs g c0 hc w hT hg
theorem ends_feed (g : Nat) (s : ByteArray) (hs : s.size ≤ 1000000000) (K : List Key) (hK : keysOf false s.data.toList = K) (H : ByteArray) (hH : ByteS (held false s.data.toList) = H) (w : World) (hT : Tb w) (hg : w.heap[g]? = some (.cells #[.string ⟨#[]⟩] 58 (0, 0))) :
    Calls Tryd.prog 20 #[.pointer (some ⟨g, 0, none⟩), .string s] w fun e w' => ∃ v, e = .returned v ∧ Own w' w.heap.size v K ∧ w.grownBy w' (some g) ∧ w'.heap[g]? = some (.cells #[.string H] 58 (0, 0)) := by
  have h := feed_calls g ⟨#[]⟩ s (by have : (⟨#[]⟩ : ByteArray).size = 0 := rfl; omega) w hT hg
  unfold TPost at h
  rw [nil_app] at h
  subst hK hH
  exact h
theorem C_of_own {W : World} {B n c : Nat} {A : Option Addr} {K : List Key} (h : Own W B (.slice A n c) K) (hn : K.length = n) : Kd.C k50 W A n (K.map toS) := by
  obtain ⟨A', c', e, -, hC⟩ := own_Cn h hn
  cases e
  exact hC
theorem keep_row {w4 w5 w6 : World} {o1 o2 : Obj} {g m c : Nat} {A : Option Addr} {K : List Key} (h : Own w5 ((w4.alloc o1).alloc o2).heap.size (.slice A m c) K) (hg : w5.grownBy w6 (some g)) (hlt : g < w4.heap.size + 1) :
    Own w6 ((w4.alloc o1).alloc o2).heap.size (.slice A m c) K :=
  Own_grown h hg (fun k hk => by have := (h.lt k hk).1; simp only [Wk.size_alloc] at this; omega)
theorem other_blk {w5 w6 : World} {g g' : Nat} {ob : Obj} (h : w5.heap[g']? = some ob) (hg : w5.grownBy w6 (some g)) (hne : g' ≠ g) : w6.heap[g']? = some ob :=
  (hg.block g' (blk_lt h) (fun e => by cases e; exact hne rfl)).trans h
theorem Own_drewN {W : World} {B : Nat} {v : Value} {K : List Key} (h : Own W B v K) (n : Nat) : Own (W.drewN n) B v K := own_below h (bel_drewN (Below.refl _ _) n)
set_option maxHeartbeats 8000000 in
set_option maxRecDepth 1000000 in
theorem ends_calls (k : Key) (s : ByteArray) (hk : k.text.length ≤ 100000000) (hc0 : -2147483648 ≤ k.char) (hc1 : k.char ≤ 2147483647) (hs : s.size ≤ 100000000) (w : World) (hT : Tb w) :
    Calls Tryd.prog 10 #[keyV k, .string s] w fun e w' => e = .returned (.bool true) ∧ Below w.heap.size w w' := by
  obtain ⟨kind, char, ct, mt, sh, text⟩ := k
  have HT := Lib.hid hT
  have hs' : s.size ≤ 1000000000 := by omega
  obtain ⟨b, ok, hb⟩ : ∃ b ok, bytesOf ⟨kind, char, ct, mt, sh, text⟩ = (b, ok) := ⟨_, _, rfl⟩
  obtain ⟨B, hBB⟩ : ∃ B, ByteS b = B := ⟨_, rfl⟩
  have hBd : B.data.toList = b := by rw [← hBB]; exact held_B b
  rw [← hBd] at hb
  obtain ⟨N, hN⟩ : ∃ N : ByteArray, N = ⟨(nameOf ⟨kind, char, ct, mt, sh, text⟩).toArray⟩ := ⟨_, rfl⟩
  obtain ⟨K, hK⟩ : ∃ K, keysOf false s.data.toList = K := ⟨_, rfl⟩
  obtain ⟨H, hH⟩ : ∃ H, ByteS (held false s.data.toList) = H := ⟨_, rfl⟩
  obtain ⟨m, hm⟩ : ∃ m, K.length = m := ⟨_, rfl⟩
  have hmb : m ≤ 1000000000 := by
    have := keys_len false s.data.toList
    rw [hK, hm, size_len] at this; omega
  have hk' : text.length ≤ 999999900 := by simp only at hk; omega
  have HB := Lib.hid hb
  have HNM := Lib.hid hN
  have HK := Lib.hid hK
  have HH := Lib.hid hH
  have HM := Lib.hid hm
  clear hT hb hBd hBB hk hN hK hH hm
  go_enter Tryd.func10, Tryd.ntmps10
  go_upto_region 5 with (first
    | (go_at_call 16; (with_reducible refine (fixed_calls _ (HT.out.below (bel_a w _))).mono ?_); rintro e w1 ⟨rfl, hb⟩; have HB1 := Lib.hid (bel_call (bel_a w _) hb); have HK1 : Hid (Ex w1 w.heap.size kind char ct mt sh ⟨text.toArray⟩) := ⟨blk_below (heap_alloc_new w _) hb⟩; clear hb))
  obtain ⟨w2, hw2⟩ : ∃ w2, w1.alloc (.cells #[.string ⟨#[]⟩] 58) = w2 := ⟨_, rfl⟩
  obtain ⟨g0, hg0⟩ : ∃ g0, w1.heap.size = g0 := ⟨_, rfl⟩
  have HB2 : Hid (Below w.heap.size w w2) := hw2 ▸ bel_alloc HB1.out _
  have HK2 : Hid (Ex w2 w.heap.size kind char ct mt sh ⟨text.toArray⟩) := hw2 ▸ HK1.out.al _
  have HZ2 : Hid (w2.heap[g0]? = some (.cells #[.string ⟨#[]⟩] 58 (0, 0))) := hg0 ▸ hw2 ▸ heap_alloc_new w1 _
  have hge0 : w.heap.size ≤ g0 := hg0 ▸ HB1.out.size
  rw [hw2, hg0]
  clear hw2 hg0 HB1 HK1
  obtain ⟨d0, d1, d2, d3, d4, d5⟩ := HK2.out.c
  go_wp2_with (first
    | (go_at_call 20; (with_reducible refine (feed_nil s _).mono ?_); rintro e wz ⟨rfl, rfl⟩)
    | (go_at_call 21; (with_reducible refine (flush_nil _).mono ?_); rintro e wz ⟨rfl, rfl⟩)
    | (go_at_call 22; (with_reducible refine (held_nil _).mono ?_); rintro e wz ⟨rfl, rfl⟩)
    | (go_at_call 26; (with_reducible refine (clone_nil _).mono ?_); rintro e wz ⟨rfl, rfl⟩)
    | (go_at_call 24; (with_reducible refine (ends_bytes kind char ct mt sh text B ok HB.out _ (HT.out.below HB2.out) hk' hc0 hc1).mono ?_); rintro e w3 ⟨rfl, hb⟩; have HB3 := Lib.hid (bel_call HB2.out hb); have HK3 := Lib.hid (HK2.out.bel hb); have HZ3 := Lib.hid (blk_below HZ2.out hb); clear hb d0 d1 d2 d3 d4 d5; obtain ⟨d0, d1, d2, d3, d4, d5⟩ := HK3.out.c)
    | (go_at_call 27; (with_reducible refine (ends_name kind char ct mt sh text N HNM.out _ (HT.out.below HB3.out) hc0 hc1).mono ?_); rintro e w4 ⟨rfl, hb⟩; have HB4 := Lib.hid (bel_call HB3.out hb); have HZ4 := Lib.hid (blk_below HZ3.out hb); clear hb d0 d1 d2 d3 d4 d5)
    | (go_at_call 26; (with_reducible refine (clone_dec g0 ⟨#[]⟩ _ HZ4.out).mono ?_); rintro e wz ⟨rfl, rfl⟩)
    | (go_at_call 17; (with_reducible refine (ends_fed s hs' K HK.out H HH.out (w4.heap.size + 1) 1 (Nat.le_refl _) _ (HT.out.below (bel_alloc (bel_alloc HB4.out _) _)) (alloc2_at w4 _ _ _)).mono ?_); rintro e w5 ⟨v5, rfl, ho, hb⟩; obtain ⟨A5, c5, rfl, hc5, hC5⟩ := own_Cn ho HM.out; have HO5 := Lib.hid ho; have HB5 := Lib.hid (bel_call (bel_alloc (bel_alloc HB4.out _) _) hb); have HZ5 := Lib.hid (blk_below (Wk.blk_alloc (Wk.blk_alloc HZ4.out _) _) hb); have HC5 := Lib.hid (blk_below (Wk.blk_alloc (heap_alloc_new w4 (.cells #[.string ⟨#[]⟩] 58)) _) hb); clear ho hb hC5)
    | (go_at_call 20; (with_reducible refine (ends_feed g0 s hs' K HK.out H HH.out _ (HT.out.below HB5.out) HZ5.out).mono ?_); rintro e w6 ⟨v6, rfl, ho6, hg6, hb6⟩; obtain ⟨A6, c6, rfl, hc6, hC6⟩ := own_Cn ho6 HM.out; have HC6 := Lib.hid hC6; have HL6 := Lib.hid (keep_row HO5.out hg6 (Nat.lt_succ_of_lt (blk_lt HZ4.out))); have HG6 := Lib.hid (other_blk HC5.out hg6 (Nat.ne_of_gt (blk_lt HZ4.out))); have HZ6 := Lib.hid hb6; have HB6 := Lib.hid (bel_gb HB5.out hg6 hge0); clear ho6 hg6 hb6 hC6)
    | (go_at_call 18; (with_reducible refine (same_n K m HM.out hmb A6 A5 c6 c5 _ HC6.out hc6 (C_of_own HL6.out HM.out) hc5).mono ?_); rintro e w7 ⟨rfl, n1, rfl⟩; have HL7 := Lib.hid (Own_drewN HL6.out n1); have HG7 := Lib.hid (blk_drewN HG6.out n1); have HZ7 := Lib.hid (blk_drewN HZ6.out n1); have HB7 := Lib.hid (bel_drewN HB6.out n1))
    | (go_at_call 22; (with_reducible refine (held_calls g0 H _ HZ7.out).mono ?_); rintro e wz ⟨rfl, rfl⟩)
    | (go_at_call 22; (with_reducible refine (held_calls w4.heap.size ⟨#[]⟩ _ HG7.out).mono ?_); rintro e wz ⟨rfl, rfl⟩)
    | (go_at_call 20; (with_reducible refine (ends_feed w4.heap.size s hs' K HK.out H HH.out _ (HT.out.below HB7.out) HG7.out).mono ?_); rintro e w8 ⟨v8, rfl, ho8, hg8, hb8⟩; obtain ⟨A8, c8, rfl, hc8, hC8⟩ := own_Cn ho8 HM.out; have HC8 := Lib.hid hC8; have HL8 := Lib.hid (keep_row HL7.out hg8 (Nat.lt_succ_self _)); have HB8 := Lib.hid (bel_gb HB7.out hg8 HB4.out.size); clear ho8 hg8 hb8 hC8)
    | (go_at_call 18; (with_reducible refine (same_n K m HM.out hmb A8 A5 c8 c5 _ HC8.out hc8 (C_of_own HL8.out HM.out) hc5).mono ?_); rintro e w9 ⟨rfl, n2, rfl⟩))
  go_ret
  exact ⟨rfl, bel_drewN HB8.out _⟩
end Go.Proofs.YtjjilhfebkeoeaaDoor.Ky
