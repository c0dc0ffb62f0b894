/- ss3, number, paste: walked. -/
import Derived.Test.YtjjilhfebkeoeaaDoorKyA
import Derived.Test.YtjjilhfebkeoeaaDoorCut
import Derived.RegionTactic
import Derived.StillTailTactics
import Derived.ChangeAlike
namespace Go.Proofs.YtjjilhfebkeoeaaDoor.Ky
open Go Go.RowKit
open Go.Proofs.YtjjilhfebkeoeaaDoor.Wk (bcell bel_drew bel_drewN bel_alloc bel_set bel_call size_len mk_data beq_true_i bne_true_i bne_false_i beq_false_i drop_cons var_below)
set_option linter.unusedVariables false
set_option linter.unusedSimpArgs false


theorem ss3_meta {s : ByteArray} (last : Bool) (h2 : 2 ≤ s.size) (h : (s.size = 2 ∧ last = true) ∨ ∃ g : 2 < s.size, s[2].toNat < 64 ∨ 126 < s[2].toNat) : ss3 last s.data.toList = withM 79 := by
  unfold ss3
  rcases h with ⟨h, rfl⟩ | ⟨g, h⟩
  · rw [List.drop_of_length_le (by rw [size_len]; omega)]; rfl
  · rw [drop_cons s 2 g]; simp only; rw [if_pos h]
theorem ss3_wait {s : ByteArray} (h : s.size = 2) : ss3 false s.data.toList = (key0, 0) := by
  unfold ss3
  rw [List.drop_of_length_le (by rw [size_len]; omega)]; rfl
theorem ss3_key {s : ByteArray} (last : Bool) (g : 2 < s.size) (h1 : ¬ (s[2].toNat < 64 ∨ 126 < s[2].toNat)) (h : (lettered s[2].toNat).kind ≠ 0 ∧ (lettered s[2].toNat).kind ≠ 15) : ss3 last s.data.toList = (lettered s[2].toNat, 3) := by
  unfold ss3; rw [drop_cons s 2 g]; simp only; rw [if_neg h1, if_pos h]
theorem ss3_unk {s : ByteArray} (last : Bool) (g : 2 < s.size) (h1 : ¬ (s[2].toNat < 64 ∨ 126 < s[2].toNat)) (h : ¬ ((lettered s[2].toNat).kind ≠ 0 ∧ (lettered s[2].toNat).kind ≠ 15)) : ss3 last s.data.toList = unknown (s.data.toList.take 3) := by
  unfold ss3; rw [drop_cons s 2 g]; simp only; rw [if_neg h1, if_neg h]
theorem ret_p {a b : Key × Nat} (h : a = b) : Ending.returned (knV b) = .returned (knV a) := by rw [h]
set_option maxHeartbeats 1000000 in
set_option maxRecDepth 100000 in
theorem ss3_short (last : Bool) (s : ByteArray) (h2 : s.size = 2) (w : World) :
    Calls Tryd.prog 54 #[.string s, .bool last] w fun e w' => e = .returned (knV (ss3 last s.data.toList)) ∧ Below w.heap.size w w' := by
  have q : ((s.size : Int) == 2) = true := beq_true_i (by omega)
  cases last
  · have H := Lib.hid (ss3_wait h2)
    clear h2
    go_enter Tryd.func54, Tryd.ntmps54
    go_wp2
    exact bodyPost_ret (v := .tuple #[.agg #[.int .i64 0, .int .i32 0, .bool false, .bool false, .bool false, .string ⟨#[]⟩], .int .i64 0]) (by simp [results, Tryd.results54, go_sem]) rfl ⟨ret_kn (k' := key0) H.out, bel_a _ _⟩
  · have H := Lib.hid (ss3_meta true (by omega) (.inl ⟨h2, rfl⟩))
    clear h2
    go_enter Tryd.func54, Tryd.ntmps54
    go_wp2_with (go_at_call 76; (with_reducible refine (meta_calls 79 _).mono ?_); rintro e wz ⟨rfl, hb⟩; obtain ⟨hc', hf⟩ := bcell hb; have hz' := lt_alloc hb; unfold knV keyV withM)
    exact bodyPost_ret (v := .tuple #[.agg #[.int .i64 1, .int .i32 79, .bool false, .bool true, .bool false, .string ⟨#[]⟩], .int .i64 2]) (by simp [results, Tryd.results54, go_sem, hc', hz']) rfl ⟨ret_kn (k' := (withM 79).1) H.out, bel6 (bel_ca hb) (Nat.le_refl _)⟩
set_option maxHeartbeats 1000000 in
set_option maxRecDepth 100000 in
theorem ss3_bad (last : Bool) (s : ByteArray) (h2 : 2 < s.size) (w : World) (h : s[2].toNat < 64 ∨ 126 < s[2].toNat) :
    Calls Tryd.prog 54 #[.string s, .bool last] w fun e w' => e = .returned (knV (ss3 last s.data.toList)) ∧ Below w.heap.size w w' := by
  have H := Lib.hid (ss3_meta last (by omega) (.inr ⟨h2, h⟩))
  have q : ((s.size : Int) == 2) = false := beq_false_i (by omega)
  have hz2 : (2 : Int) < s.size := by omega
  have hc : (s[2].toNat : Int) < 256 := by have := s[2].toNat_lt; omega
  by_cases h1 : s[2].toNat < 64
  · have q1 : decide ((s[2].toNat : Int) < 64) = true := by rw [decide_eq_true_eq]; omega
    clear h h1
    go_enter Tryd.func54, Tryd.ntmps54
    go_wp2_with (go_at_call 76; (with_reducible refine (meta_calls 79 _).mono ?_); rintro e wz ⟨rfl, hb⟩; obtain ⟨hc', hf⟩ := bcell hb; have hz' := lt_alloc hb; unfold knV keyV withM)
    exact bodyPost_ret (v := .tuple #[.agg #[.int .i64 1, .int .i32 79, .bool false, .bool true, .bool false, .string ⟨#[]⟩], .int .i64 2]) (by simp [results, Tryd.results54, go_sem, hc', hz']) rfl ⟨ret_kn (k' := (withM 79).1) H.out, bel6 (bel_ca hb) (Nat.le_refl _)⟩
  · have q1 : decide ((s[2].toNat : Int) < 64) = false := by rw [decide_eq_false_iff_not]; omega
    have q2 : decide ((126 : Int) < s[2].toNat) = true := by rw [decide_eq_true_eq]; omega
    clear h h1
    go_enter Tryd.func54, Tryd.ntmps54
    go_wp2_with (go_at_call 76; (with_reducible refine (meta_calls 79 _).mono ?_); rintro e wz ⟨rfl, hb⟩; obtain ⟨hc', hf⟩ := bcell hb; have hz' := lt_alloc hb; unfold knV keyV withM)
    exact bodyPost_ret (v := .tuple #[.agg #[.int .i64 1, .int .i32 79, .bool false, .bool true, .bool false, .string ⟨#[]⟩], .int .i64 2]) (by simp [results, Tryd.results54, go_sem, hc', hz']) rfl ⟨ret_kn (k' := (withM 79).1) H.out, bel6 (bel_ca hb) (Nat.le_refl _)⟩
set_option maxHeartbeats 2000000 in
set_option maxRecDepth 100000 in
theorem ss3_good (last : Bool) (s : ByteArray) (h2 : 2 < s.size) (hs : s.size ≤ 1000000000) (w : World) (h : ¬ (s[2].toNat < 64 ∨ 126 < s[2].toNat)) :
    Calls Tryd.prog 54 #[.string s, .bool last] w fun e w' => e = .returned (knV (ss3 last s.data.toList)) ∧ Below w.heap.size w w' := by
  have q : ((s.size : Int) == 2) = false := beq_false_i (by omega)
  have hz2 : (2 : Int) < s.size := by omega
  have hc : (s[2].toNat : Int) < 256 := by have := s[2].toNat_lt; omega
  have hc' : s[2].toNat < 256 := s[2].toNat_lt
  have q1 : decide ((s[2].toNat : Int) < 64) = false := by rw [decide_eq_false_iff_not]; omega
  have q2 : decide ((126 : Int) < s[2].toNat) = false := by rw [decide_eq_false_iff_not]; omega
  have hx : (s.extract 0 3).size ≤ 1000000000 := by simp; omega
  by_cases hk : (lettered s[2].toNat).kind ≠ 0 ∧ (lettered s[2].toNat).kind ≠ 15
  · have H := Lib.hid (ss3_key last h2 h hk)
    have q3 : ((lettered s[2].toNat).kind != 0) = true := bne_true_i hk.1
    have q4 : ((lettered s[2].toNat).kind != 15) = true := bne_true_i hk.2
    clear h hk
    go_enter Tryd.func54, Tryd.ntmps54
    go_wp2_with (go_at_call 57; (with_reducible refine (lettered_calls _ hc' _).mono ?_); rintro e wz ⟨rfl, hb⟩; obtain ⟨hcc, hf⟩ := bcell hb; have hz' := lt_alloc hb; unfold keyV)
    exact bodyPost_ret (v := .tuple #[keyV (lettered s[2].toNat), .int .i64 3]) (by simp [results, Tryd.results54, go_sem, hcc, hz', keyV]) rfl ⟨ret_p H.out, bel_alloc (bel6 (bel_ca hb) (Nat.le_refl _)) _⟩
  · have H := Lib.hid (ss3_unk last h2 h hk)
    by_cases h0 : (lettered s[2].toNat).kind = 0
    · have q3 : ((lettered s[2].toNat).kind != 0) = false := bne_false_i h0
      clear h hk h0
      go_enter Tryd.func54, Tryd.ntmps54
      go_wp2_with (first
        | (go_at_call 57; (with_reducible refine (lettered_calls _ hc' _).mono ?_); rintro e wz ⟨rfl, hb⟩; obtain ⟨hcc, hf⟩ := bcell hb; have hz' := lt_alloc hb; unfold keyV)
        | (go_at_call 74; (with_reducible refine (unknown_calls _ _ hx).mono ?_); rintro e wy ⟨rfl, hb2⟩; obtain ⟨hcd, hf2⟩ := bcell hb2; have hy' := lt_next (lt_next hz' (bel_a _ _)) hb2; have hz3 := Nat.lt_add_one_of_lt hz'; unfold knV keyV))
      exact bodyPost_ret (v := knV (unknown (s.data.toList.take 3))) (by simp [results, Tryd.results54, go_sem, hcc, hz', hcd, hy', hz3, knV, keyV]) rfl ⟨ret_p H.out, bel6 (bel_call (bel_alloc (bel_ca hb) _) hb2) (Nat.le_refl _)⟩
    · have q3 : ((lettered s[2].toNat).kind != 0) = true := bne_true_i h0
      have q4 : ((lettered s[2].toNat).kind != 15) = false := bne_false_i (Classical.byContradiction fun g => hk ⟨h0, g⟩)
      clear h hk h0
      go_enter Tryd.func54, Tryd.ntmps54
      go_wp2_with (first
        | (go_at_call 57; (with_reducible refine (lettered_calls _ hc' _).mono ?_); rintro e wz ⟨rfl, hb⟩; obtain ⟨hcc, hf⟩ := bcell hb; have hz' := lt_alloc hb; unfold keyV)
        | (go_at_call 74; (with_reducible refine (unknown_calls _ _ hx).mono ?_); rintro e wy ⟨rfl, hb2⟩; obtain ⟨hcd, hf2⟩ := bcell hb2; have hy' := lt_next (lt_next hz' (bel_a _ _)) hb2; have hz3 := Nat.lt_add_one_of_lt hz'; unfold knV keyV))
      exact bodyPost_ret (v := knV (unknown (s.data.toList.take 3))) (by simp [results, Tryd.results54, go_sem, hcc, hz', hcd, hy', hz3, knV, keyV]) rfl ⟨ret_p H.out, bel6 (bel_call (bel_alloc (bel_ca hb) _) hb2) (Nat.le_refl _)⟩
theorem ss3_calls (last : Bool) (s : ByteArray) (h2 : 2 ≤ s.size) (hs : s.size ≤ 1000000000) (w : World) :
    Calls Tryd.prog 54 #[.string s, .bool last] w fun e w' => e = .returned (knV (ss3 last s.data.toList)) ∧ Below w.heap.size w w' := by
  by_cases h : s.size = 2
  · exact ss3_short last s h w
  · by_cases g : s[2].toNat < 64 ∨ 126 < s[2].toNat
    · exact ss3_bad last s (by omega) w g
    · exact ss3_good last s (by omega) hs w g

/-! number -/
def numI (l : List UInt8) (v : Int) : Prop := ∀ n, num l = some n → v = n
theorem dval_snoc (l : List UInt8) (c : UInt8) : dval (l ++ [c]) = dval l * 10 + (c.toNat - 48) := by simp [dval, List.foldl_append]
theorem dval_lt (l : List UInt8) (h : l.all digit = true) : dval l < 10 ^ l.length := by
  have key : ∀ (l : List UInt8) (n k : Nat), l.all digit = true → n < 10 ^ k → l.foldl (fun n c => n * 10 + (c.toNat - 48)) n < 10 ^ (k + l.length) := by
    intro l
    induction l with
    | nil => intro n k _ h; simpa using h
    | cons c r ih =>
      intro n k hd h
      simp only [List.all_cons, Bool.and_eq_true] at hd
      have hc : 48 ≤ c.toNat ∧ c.toNat ≤ 57 := by simpa [digit] using hd.1
      simp only [List.foldl_cons, List.length_cons]
      have := ih (n * 10 + (c.toNat - 48)) (k + 1) hd.2 (by rw [Nat.pow_succ]; omega)
      rwa [show k + 1 + r.length = k + (r.length + 1) from by omega] at this
  have := key l 0 0 h (by simp)
  simpa [dval] using this
theorem num_no {l : List UInt8} (h : l.all digit = false) : num l = none := by unfold num; rw [if_neg (by rw [h]; simp)]
theorem num_bool {l : List UInt8} (h : l.all digit = true) : (num l).isSome = (decide (1 ≤ l.length) && decide (l.length ≤ 3)) := by
  unfold num
  by_cases g : 1 ≤ l.length ∧ l.length ≤ 3
  · rw [if_pos ⟨h, g⟩]; simp [g.1, g.2]
  · rw [if_neg (fun k => g k.2)]
    by_cases g1 : 1 ≤ l.length
    · simp [g1]; omega
    · simp; omega
theorem all_bad {l : List UInt8} {k : Nat} {c : UInt8} (h : l[k]? = some c) (hc : digit c = false) : l.all digit = false := by
  rw [Bool.eq_false_iff]
  intro g
  rw [List.all_eq_true] at g
  have := g c (List.mem_of_getElem? h)
  rw [hc] at this; cases this
def NPost (l : List UInt8) (w : World) (e : Ending) (w' : World) : Prop := ∃ v : Int, e = .returned (.tuple #[.int .i64 v, .bool (num l).isSome]) ∧ numI l v ∧ w' = w
set_option maxHeartbeats 2000000 in
set_option maxRecDepth 100000 in
theorem number_calls (s : ByteArray) (hs : s.size ≤ 1000000000) (w : World) : Calls Tryd.prog 83 #[.string s] w (NPost s.data.toList w) := by
  go_enter Tryd.func83, Tryd.ntmps83
  go_wp2
  go_loop [4, 8] (fun v4 v8 => ∃ (k : Nat) (n : Int), v4 = .int .i64 n ∧ v8 = .int .i64 k ∧ k ≤ s.size ∧ Hid ((s.data.toList.take k).all digit = true) ∧ Hid (k ≤ 3 → n = dval (s.data.toList.take k))) (fun _ v => s.size - (intOf v).toNat)
  case atStart => exact ⟨0, 0, rfl, rfl, Nat.zero_le _, rfl, fun _ => rfl⟩
  case round =>
    obtain ⟨k, n, rfl, rfl, hk, hall, hv⟩ := hrel
    by_cases hlt : k < s.size
    · have hc6 : (s[k].toNat : Int) < 256 := by have := s[k].toNat_lt; omega
      have hts := Lib.hid (Wk.take_snoc s k hlt)
      have hgt : Hid (s.data.toList[k]? = some s[k]) := by
        show _ = _
        rw [List.getElem?_eq_getElem (by rw [size_len]; exact hlt)]; rfl
      go_wp2
      all_goals first
        | (go_ret2
           refine ⟨0, ?_, ?_, rfl⟩
           · have hbad := all_bad hgt.out (by unfold digit; rw [decide_eq_false_iff_not]; omega)
             rw [num_no hbad]; rfl
           · intro n' hn'
             have hbad := all_bad hgt.out (by unfold digit; rw [decide_eq_false_iff_not]; omega)
             rw [num_no hbad] at hn'; cases hn')
        | (go_round
           case rel =>
             refine ⟨k + 1, _, rfl, by go_num, by omega, ?_, ?_⟩
             · show _ = _
               rw [hts.out, List.all_append, hall.out]
               have : digit s[k] = true := by unfold digit; rw [decide_eq_true_eq]; omega
               simp [this]
             · intro hk3
               have h1 := hv.out (by omega)
               have h2 := dval_lt _ hall.out
               have h3 : (10 : Nat) ^ (s.data.toList.take k).length ≤ 10 ^ 2 := Nat.pow_le_pow_right (by omega) (by simp; omega)
               have h4 : 48 ≤ s[k].toNat := by omega
               rw [hts.out, dval_snoc, h1]
               unfold wrap64
               omega
           case measure => simp [intOf]; omega)
    · have hke : Hid (s.data.toList.take k = s.data.toList) := List.take_of_length_le (by rw [size_len]; omega)
      have hb := num_bool (by have := hall.out; rwa [hke.out] at this : s.data.toList.all digit = true)
      rw [size_len] at hb
      by_cases h1 : 1 ≤ s.size
      · by_cases h3 : s.size ≤ 3
        · have q1 : decide ((1 : Int) ≤ s.size) = true := by rw [decide_eq_true_eq]; omega
          have q2 : decide ((s.size : Int) ≤ 3) = true := by rw [decide_eq_true_eq]; omega
          have hB : Hid ((num s.data.toList).isSome = true) := by show _ = _; rw [hb]; simp [h1, h3]
          have hvn : Hid (n = dval s.data.toList) := by
            show _ = _
            rw [hv.out (by omega), hke.out]
          clear hb h1 h3
          go_wp2
          go_ret2
          refine ⟨n, by rw [hB.out]; rfl, ?_, rfl⟩
          intro n' hn'
          unfold num at hn'
          split at hn'
          · rw [hvn.out]; simp only [Option.some.injEq] at hn'; omega
          · cases hn'
        · have q1 : decide ((1 : Int) ≤ s.size) = true := by rw [decide_eq_true_eq]; omega
          have q2 : decide ((s.size : Int) ≤ 3) = false := by rw [decide_eq_false_iff_not]; omega
          have hB : Hid ((num s.data.toList).isSome = false) := by show _ = _; rw [hb]; simp [h1, h3]
          clear hb h1 h3
          go_wp2
          go_ret2
          refine ⟨n, by rw [hB.out]; rfl, ?_, rfl⟩
          intro n' hn'
          have := hB.out
          rw [hn'] at this; cases this
      · have q1 : decide ((1 : Int) ≤ s.size) = false := by rw [decide_eq_false_iff_not]; omega
        have hB : Hid ((num s.data.toList).isSome = false) := by show _ = _; rw [hb]; simp [h1]
        clear hb h1
        go_wp2
        go_ret2
        refine ⟨n, by rw [hB.out]; rfl, ?_, rfl⟩
        intro n' hn'
        have := hB.out
        rw [hn'] at this; cases this
theorem number_some {s : ByteArray} {n : Nat} (h : num s.data.toList = some n) (hs : s.size ≤ 1000000000) (w : World) : Calls Tryd.prog 83 #[.string s] w fun e w' => e = .returned (.tuple #[.int .i64 n, .bool true]) ∧ w' = w :=
  (number_calls s hs w).mono (by
    rintro e w' ⟨v, rfl, hv, rfl⟩
    rw [hv n h, h]; exact ⟨rfl, rfl⟩)
theorem number_none {s : ByteArray} (h : num s.data.toList = none) (hs : s.size ≤ 1000000000) (w : World) : Calls Tryd.prog 83 #[.string s] w fun e w' => ∃ v : Int, e = .returned (.tuple #[.int .i64 v, .bool false]) ∧ w' = w :=
  (number_calls s hs w).mono (by
    rintro e w' ⟨v, rfl, -, rfl⟩
    rw [h]; exact ⟨v, rfl, rfl⟩)

/-! paste -/
theorem index_calls (x : ByteArray) (k : Int) (hk : Lib.index x.data.toList pend = k) (hs : x.size ≤ 1000000000) (w : World) (hT : Tb w) :
    Calls Tryd.prog 93 #[.string x, .string ⟨#[27, 91, 50, 48, 49, 126]⟩] w fun e w' => e = .returned (.int .i64 k) ∧ w' = w := by
  obtain ⟨m, hm⟩ := hT.m
  refine (Tryd.strings_Index x ⟨#[27, 91, 50, 48, 49, 126]⟩ m w (by omega) hm).mono ?_
  rintro e w' ⟨rfl, rfl⟩
  rw [show ((⟨#[27, 91, 50, 48, 49, 126]⟩ : ByteArray).data.toList) = pend from rfl, hk]
  exact ⟨rfl, rfl⟩
theorem drop_ext (s : ByteArray) (i : Nat) : (s.extract i s.size).data.toList = s.data.toList.drop i := Lib.extract_to_end s i
theorem mid_ext (s : ByteArray) (i n : Nat) : (s.extract i (i + n)).data.toList = (s.data.toList.drop i).take n := by
  rw [Lib.extract_data]; congr 1; omega
set_option maxHeartbeats 2000000 in
set_option maxRecDepth 100000 in
theorem paste_calls (s : ByteArray) (i : Nat) (last : Bool) (hi : i ≤ s.size) (hs : s.size ≤ 1000000000) (w : World) (hT : Tb w) :
    Calls Tryd.prog 84 #[.string s, .int .i64 i, .bool last] w fun e w' => e = .returned (knV (paste last s.data.toList i)) ∧ Below w.heap.size w w' := by
  have HT := Lib.hid hT
  have hx : (s.extract i s.size).size ≤ 1000000000 := by simp; omega
  have hii : (i : Int) ≤ s.size := by omega
  have hsi : (s.size : Int) ≤ 1000000000 := by omega
  by_cases h0 : 0 ≤ Lib.index (s.data.toList.drop i) pend
  · obtain ⟨n, hn⟩ : ∃ n : Nat, Lib.index (s.data.toList.drop i) pend = (n : Int) := ⟨_, (Int.toNat_of_nonneg h0).symm⟩
    have h6 := index_lt _ h0
    rw [hn, List.length_drop, size_len] at h6
    have H := paste_hit (l := s.data.toList) (i := i) last h0
    rw [hn, Int.toNat_natCast, ← mid_ext] at H
    have H := Lib.hid H
    have HI : Hid (Lib.index (s.extract i s.size).data.toList pend = (n : Int)) := by show _ = _; rw [drop_ext, hn]
    have hy : (s.extract i (i + n)).size ≤ 1000000000 := by simp; omega
    have hn6 : (i : Int) + n + 6 ≤ s.size := by omega
    have nn1 : ((i : Int) + n).toNat = i + n := by omega
    clear h0 hn h6 hT
    go_enter Tryd.func84, Tryd.ntmps84
    go_wp2_with (first
      | (go_at_call 93; (with_reducible refine (index_calls _ _ HI.out hx _ (HT.out.below (bel_a _ _))).mono ?_); rintro e wz ⟨rfl, rfl⟩)
      | (go_at_call 49; (with_reducible refine (clone_calls _ _ hy).mono ?_); rintro e wz ⟨rfl, hb⟩; obtain ⟨hc', hf⟩ := bcell hb; have hz' := lt_alloc hb))
    exact bodyPost_ret (v := .tuple #[.agg #[.int .i64 17, .int .i32 0, .bool false, .bool false, .bool false, .string (s.extract i (i + n))], .int .i64 (i + n + 6 : Nat)]) (by simp [results, Tryd.results84, go_sem, hc', hz']) rfl ⟨ret_kn H.out, bel6 (bel_ca hb) (Nat.le_refl _)⟩
  · have hm1 : Lib.index (s.data.toList.drop i) pend = -1 := by have := Lib.index_ge (s.data.toList.drop i) pend; omega
    have HI : Hid (Lib.index (s.extract i s.size).data.toList pend = -1) := by show _ = _; rw [drop_ext, hm1]
    cases last
    · have H : Hid (paste false s.data.toList i = (key0, 0)) := by show _ = _; unfold paste; rw [if_neg h0, if_neg (by simp)]
      clear h0 hm1 hT
      go_enter Tryd.func84, Tryd.ntmps84
      go_wp2_with (go_at_call 93; (with_reducible refine (index_calls _ _ HI.out hx _ (HT.out.below (bel_a _ _))).mono ?_); rintro e wz ⟨rfl, rfl⟩)
      exact bodyPost_ret (v := .tuple #[.agg #[.int .i64 0, .int .i32 0, .bool false, .bool false, .bool false, .string ⟨#[]⟩], .int .i64 0]) (by simp [results, Tryd.results84, go_sem]) rfl ⟨ret_kn (k' := key0) H.out, bel_a _ _⟩
    · have H := paste_miss h0
      rw [← drop_ext, size_len] at H
      have H := Lib.hid H
      clear h0 hm1 hT
      go_enter Tryd.func84, Tryd.ntmps84
      go_wp2_with (first
        | (go_at_call 93; (with_reducible refine (index_calls _ _ HI.out hx _ (HT.out.below (bel_a _ _))).mono ?_); rintro e wz ⟨rfl, rfl⟩)
        | (go_at_call 49; (with_reducible refine (clone_calls _ _ hx).mono ?_); rintro e wz ⟨rfl, hb⟩; obtain ⟨hc', hf⟩ := bcell hb; have hz' := lt_alloc hb))
      exact bodyPost_ret (v := .tuple #[.agg #[.int .i64 17, .int .i32 0, .bool false, .bool false, .bool false, .string (s.extract i s.size)], .int .i64 s.size]) (by simp [results, Tryd.results84, go_sem, hc', hz']) rfl ⟨ret_kn H.out, bel6 (bel_ca hb) (Nat.le_refl _)⟩
end Go.Proofs.YtjjilhfebkeoeaaDoor.Ky
