/- The reference's decimal and Line; Print of both sides: walked. -/
import Derived.Test.YtibgefampokfkaaDoorScK
import Derived.Test.YtibgefampokfkaaDoorBld
import Derived.Lib.AppendStr
namespace Go.Proofs.YtibgefampokfkaaDoor.Sc
open Go Go.RowKit Go.Proofs.YtibgefampokfkaaDoor.Cut Go.Proofs.YtibgefampokfkaaDoor.PSc
open Go.Proofs.YtibgefampokfkaaDoorW.PrintWords (bt rdOf Kd Drawn0 Reps Aside0)
open Go.Proofs.YtibgefampokfkaaDoor.Wk (bcell bel_drew bel_alloc bel_set bel_call size_len mk_data blk_alloc blk_below blk_drewN blk_cell string_of_own own_slice own_below beq_true_i bne_true_i bne_false_i cells_new var_below)
set_option linter.unusedVariables false
set_option linter.unusedSimpArgs false

theorem own_lit_u8 (W : World) (n : Nat) (hn : n < 10) : (W.alloc (.cells #[.int .u8 (48 + n)] 5)).ownsRow W.heap.size 5 1 (.slice (some ⟨W.heap.size, 0, none⟩) 1 1) 1 (Lib.byteCells [UInt8.ofNat (48 + n)]) := by
  have e : Lib.byteCells [UInt8.ofNat (48 + n)] = [.int .u8 (48 + n)] := by
    unfold Lib.byteCells
    simp only [List.map_cons, List.map_nil, UInt8.toNat_ofNat']
    congr 2; omega
  rw [e]
  exact ⟨rfl, Or.inr ⟨_, _, _, rfl, Nat.le_refl _, heap_alloc_new _ _, Nat.le_refl _, by decide, rfl, rfl⟩⟩
theorem rpiece_as {s P : ByteArray} (h : piece s.data.toList = P.data.toList) (w : World) (hs : s.size ≤ 1000000000) :
    Calls Tryd.prog 16 #[.string s] w fun e w' => e = .returned (.string P) ∧ Below w.heap.size w w' :=
  (rpiece_calls s w hs).mono (by rintro e w' ⟨rfl, hb⟩; exact ⟨by rw [h, mk_data], hb⟩)
theorem dec_lt {n : Nat} (h : n < 10) : Lib.decDigits n = [UInt8.ofNat (48 + n)] := by
  rw [Lib.decDigits, dif_pos h]
theorem dec_ge {n : Nat} (h : ¬ n < 10) : Lib.decDigits n = Lib.decDigits (n / 10) ++ Lib.decDigits (n % 10) := by
  rw [Lib.decDigits, dif_neg h, dec_lt (show n % 10 < 10 by omega)]
theorem toB_add (a b : List UInt8) : toB a ++ toB b = toB (a ++ b) := by
  rw [← toB_of (_ ++ _), ByteArray.data_append, Array.toList_append]
set_option maxHeartbeats 4000000 in
set_option maxRecDepth 100000 in
theorem dec_calls : ∀ (m n : Nat) (hm : n < m) (hn : n ≤ 100000) (w : World), Calls Tryd.prog 29 #[.int .i64 n] w fun e w' => e = .returned (.string (toB (Lib.decDigits n))) ∧ Below w.heap.size w w' := by
  intro m
  induction m with
  | zero => intro n hm; omega
  | succ m ih =>
    intro n hm hn w
    by_cases h : n < 10
    · have hd := Lib.hid (dec_lt h)
      have hcv := string_of_own (P := Tryd.prog) (src := 41) (dst := 9) (o := [UInt8.ofNat (48 + n)]) Tryd.underlying41 Tryd.underlying5 Tryd.underlying9 (own_lit_u8 w n (by omega))
      have h9 : (n : Int) < 10 := by omega
      obtain ⟨c, hc⟩ : ∃ c, UInt8.ofNat (48 + n) = c := ⟨_, rfl⟩
      rw [hc] at hd hcv
      clear hc
      go_enter Tryd.func29, Tryd.ntmps29
      go_wp2
      go_ret
      exact ⟨by rw [hd.out]; rfl, bel_alloc (Below.refl _ _) _⟩
    · have hd := Lib.hid (dec_ge h)
      have i1 : Hid (∀ (w : World), Calls Tryd.prog 29 #[.int .i64 ((n : Int) / 10)] w fun e w' => e = .returned (.string (toB (Lib.decDigits (n / 10)))) ∧ Below w.heap.size w w') := by
        show ∀ w, _
        rw [show (n : Int) / 10 = ((n / 10 : Nat) : Int) from by omega]
        exact ih (n / 10) (by omega) (by omega)
      have i2 : Hid (∀ (w : World), Calls Tryd.prog 29 #[.int .i64 ((n : Int) % 10)] w fun e w' => e = .returned (.string (toB (Lib.decDigits (n % 10)))) ∧ Below w.heap.size w w') := by
        show ∀ w, _
        rw [show (n : Int) % 10 = ((n % 10 : Nat) : Int) from by omega]
        exact ih (n % 10) (by omega) (by omega)
      have h10 : 10 ≤ (n : Int) := by omega
      have l1 : Hid ((toB (Lib.decDigits (n / 10))).size ≤ 20) := by show _ ≤ _; rw [toB_size]; exact dec_small _ (by omega)
      have l2 : Hid ((toB (Lib.decDigits (n % 10))).size ≤ 20) := by show _ ≤ _; rw [toB_size]; exact dec_small _ (by omega)
      obtain ⟨s1, hs1⟩ : ∃ s, toB (Lib.decDigits (n / 10)) = s := ⟨_, rfl⟩
      obtain ⟨s2, hs2⟩ : ∃ s, toB (Lib.decDigits (n % 10)) = s := ⟨_, rfl⟩
      rw [hs1] at i1 l1
      rw [hs2] at i2 l2
      have l1' : s1.size ≤ 20 := l1
      have l2' : s2.size ≤ 20 := l2
      have hr : Hid (s1 ++ s2 = toB (Lib.decDigits n)) := by show _ = _; rw [hd.out, ← toB_add, hs1, hs2]
      clear h ih hs1 hs2
      go_enter Tryd.func29, Tryd.ntmps29
      go_wp2_with (first
        | (go_at_call 29; (with_reducible refine (i1.out _).mono ?_); rintro e w1 ⟨rfl, hb1⟩)
        | (go_at_call 29; (with_reducible refine (i2.out _).mono ?_); rintro e w2 ⟨rfl, hb2⟩))
      go_ret
      exact ⟨by rw [hr.out]; rfl, bel_call hb1 hb2⟩
theorem decimal_calls (n : Nat) (hn : n ≤ 100000) (w : World) : Calls Tryd.prog 29 #[.int .i64 n] w fun e w' => e = .returned (.string (toB (Lib.decDigits n))) ∧ Below w.heap.size w w' := dec_calls (n + 1) n (by omega) hn w

set_option maxHeartbeats 4000000 in
set_option maxRecDepth 100000 in
theorem rline_calls (k : Int) (b : ByteArray) (n t : Int) (w : World) (hb : b.size ≤ 100000000) :
    Calls Tryd.prog 18 #[.agg #[.int .i64 k, .string b, .int .i64 n, .int .i64 t]] w fun e w' => e = .returned (lnV k b n t) ∧ Below w.heap.size w w' := by
  have hpl : Hid ((piece b.data.toList).length ≤ 400000000) := (by have := piece_len b.data.toList; rw [size_len] at this; omega : (piece b.data.toList).length ≤ 400000000)
  by_cases h1 : k = 1
  · subst h1
    obtain ⟨P, hP⟩ : ∃ P : ByteArray, piece b.data.toList = P.data.toList := ⟨toB (piece b.data.toList), by simp⟩
    have HP := Lib.hid hP
    have hPs : P.size ≤ 400000000 := by have := hpl.out; rw [hP, size_len] at this; exact this
    have hR : Hid ((⟨#[116, 121, 112, 101, 32]⟩ : ByteArray) ++ P = toB ([116, 121, 112, 101, 32] ++ piece b.data.toList)) := by
      show _ = _
      rw [hP, ← add_toB, toB_of]
    clear hP
    go_enter Tryd.func18, Tryd.ntmps18
    go_wp2_with (go_at_call 16; refine (rpiece_as HP.out _ (by omega)).mono ?_; rintro e w2 ⟨rfl, hb1⟩)
    go_ret2
    exact ⟨ret_ln' (ls1 _ _ _) hR.out, bel_call (bel_alloc (Below.refl _ _) _) hb1⟩
  have q1 : (k == 1) = false := beq_false_i h1
  by_cases h2 : k = 2
  · subst h2
    by_cases h3 : n < 1 ∨ 65535 < n
    · have H := Lib.hid (ls2a b.data.toList t h3)
      rcases h3 with h3 | h3
      · go_enter Tryd.func18, Tryd.ntmps18
        go_wp2
        go_ret2
        exact ⟨ret_ln H.out, bel_alloc (Below.refl _ _) _⟩
      · have h4 : ¬ n < 1 := by omega
        go_enter Tryd.func18, Tryd.ntmps18
        go_wp2
        go_ret2
        exact ⟨ret_ln H.out, bel_alloc (Below.refl _ _) _⟩
    · have H := Lib.hid (ls2b b.data.toList t h3)
      have h3a : 1 ≤ n := by omega
      have h3b : n ≤ 65535 := by omega
      obtain ⟨m, rfl⟩ : ∃ m : Nat, n = m := ⟨n.toNat, by omega⟩
      rw [Int.toNat_natCast] at H
      obtain ⟨P, hP⟩ : ∃ P : ByteArray, toB (Lib.decDigits m) = P := ⟨_, rfl⟩
      have hPs : P.size ≤ 20 := by rw [← hP, toB_size]; exact dec_small m (by omega)
      have hR : Hid ((⟨#[119, 105, 100, 116, 104, 32]⟩ : ByteArray) ++ P = toB ([119, 105, 100, 116, 104, 32] ++ Lib.decDigits m)) := by
        show _ = _
        rw [← hP, ← add_toB]
      have HI := fun W => decimal_calls m (by omega) W
      rw [hP] at HI
      replace HI := Lib.hid HI
      clear h3 hP
      go_enter Tryd.func18, Tryd.ntmps18
      go_wp2_with (go_at_call 29; refine (HI.out _).mono ?_; rintro e w2 ⟨rfl, hb1⟩)
      go_ret2
      exact ⟨ret_ln' H.out hR.out, bel_call (bel_alloc (Below.refl _ _) _) hb1⟩
  have q2 : (k == 2) = false := beq_false_i h2
  by_cases h3 : k = 3
  · subst h3
    by_cases t1 : t = 1
    · subst t1
      go_enter Tryd.func18, Tryd.ntmps18
      go_wp2
      go_ret2
      exact ⟨ret_ln (ls3a _ _), bel_alloc (Below.refl _ _) _⟩
    have p1 : (t == 1) = false := beq_false_i t1
    by_cases t2 : t = 2
    · subst t2
      go_enter Tryd.func18, Tryd.ntmps18
      go_wp2
      go_ret2
      exact ⟨ret_ln (ls3b _ _), bel_alloc (Below.refl _ _) _⟩
    have p2 : (t == 2) = false := beq_false_i t2
    have H := Lib.hid (ls3c b.data.toList n t1 t2)
    clear t1 t2
    go_enter Tryd.func18, Tryd.ntmps18
    go_wp2
    go_ret2
    exact ⟨ret_ln H.out, bel_alloc (Below.refl _ _) _⟩
  have q3 : (k == 3) = false := beq_false_i h3
  have H := Lib.hid (ls4 b.data.toList n t h1 h2 h3)
  clear h1 h2 h3
  go_enter Tryd.func18, Tryd.ntmps18
  go_wp2
  go_ret2
  exact ⟨ret_ln H.out, bel_alloc (Below.refl _ _) _⟩



/-- An event's line, and a list's. -/
def ln (x : S37) : List UInt8 × Int := lineS x.f0 x.f1.data.toList x.f2 x.f3
def prA (acc : List UInt8) : List S37 → List UInt8 × Int
  | [] => (acc, 0)
  | x :: r => if (ln x).2 = 0 then prA (acc ++ (ln x).1 ++ [10]) r else ([], (ln x).2)
theorem ln_len (x : S37) (hx : x.f1.size ≤ 1048576) : (ln x).1.length ≤ 4200000 := by
  have hp := piece_len x.f1.data.toList
  rw [size_len] at hp
  unfold ln lineS
  split
  · simp only [List.length_append, List.length_cons, List.length_nil]; omega
  · split
    · split
      · simp
      · have := dec_small x.f2.toNat (by omega)
        simp only [List.length_append, List.length_cons, List.length_nil]; omega
    · split
      · split
        · simp
        · split <;> simp
      · simp
theorem line_as {k : Int} {b : ByteArray} {n t : Int} {l : List UInt8} {e0 : Int} (h : lineS k b.data.toList n t = (l, e0)) (w : World) (hT : Tb w) (hb : b.size ≤ 1048576) :
    Calls Tryd.prog 17 #[.agg #[.int .i64 k, .string b, .int .i64 n, .int .i64 t]] w fun e w' => e = .returned (.tuple #[.string (toB l), .int .i64 e0]) ∧ Below w.heap.size w w' :=
  (line_calls k b n t w hT (by omega)).mono (by rintro e w' ⟨rfl, hb⟩; exact ⟨(ret_ln h).symm, hb⟩)
theorem rline_as {k : Int} {b : ByteArray} {n t : Int} {l : List UInt8} {e0 : Int} (h : lineS k b.data.toList n t = (l, e0)) (w : World) (hb : b.size ≤ 1048576) :
    Calls Tryd.prog 18 #[.agg #[.int .i64 k, .string b, .int .i64 n, .int .i64 t]] w fun e w' => e = .returned (.tuple #[.string (toB l), .int .i64 e0]) ∧ Below w.heap.size w w' :=
  (rline_calls k b n t w (by omega)).mono (by rintro e w' ⟨rfl, hb⟩; exact ⟨(ret_ln h).symm, hb⟩)
theorem prA_step {l : List S37} {x : Int} {K : S37} {acc s : List UInt8} {e : Int} (hall : ∀ y ∈ l, y.f1.size ≤ 1048576) (h : prA acc (l.drop x.toNat) = (s, e)) (h0 : 0 ≤ x) (h1 : x < (l.length : Int)) (hK : K = rd_T37 l x) :
    K.f1.size ≤ 1048576 ∧ ∃ (p : List UInt8) (e1 : Int), lineS K.f0 K.f1.data.toList K.f2 K.f3 = (p, e1) ∧ p.length ≤ 4200000 ∧ ((e1 = 0 ∧ prA (acc ++ p ++ [10]) (l.drop (x + 1).toNat) = (s, e)) ∨ (e1 ≠ 0 ∧ s = [] ∧ e = e1)) := by
  have hlt : x.toNat < l.length := by omega
  have hd : l.drop x.toNat = l[x.toNat] :: l.drop (x.toNat + 1) := List.drop_eq_getElem_cons hlt
  have hk : K = l[x.toNat] := by rw [hK]; unfold rd_T37; rw [List.getD_eq_getElem?_getD, List.getElem?_eq_getElem hlt, Option.getD_some]
  have hs : K.f1.size ≤ 1048576 := by rw [hk]; exact hall _ (List.getElem_mem hlt)
  rw [hd, prA, ← hk] at h
  have hl := ln_len K hs
  refine ⟨hs, (ln K).1, (ln K).2, rfl, hl, ?_⟩
  split at h
  · rename_i h2
    exact .inl ⟨h2, by rw [show (x + 1).toNat = x.toNat + 1 from by omega]; exact h⟩
  · rename_i h2
    simp only [Prod.mk.injEq] at h
    exact .inr ⟨h2, h.1.symm, h.2.symm⟩
theorem ret_pr {a s : List UInt8} {e : Int} (h : (a, (0 : Int)) = (s, e)) : Ending.returned (.tuple #[.string ⟨a.toArray⟩, .int .i64 0]) = .returned (.tuple #[.string (toB s), .int .i64 e]) := by
  simp only [Prod.mk.injEq] at h
  obtain ⟨rfl, rfl⟩ := h
  rfl
set_option maxHeartbeats 4000000 in
set_option maxRecDepth 100000 in
theorem print_calls (A0 : Option Addr) (c0 : Nat) (l0 : List S37) (s : List UInt8) (e0 : Int) (w : World) (hT : Tb w) (hr0 : Kd.C k37 w A0 l0.length l0) (hc0 : l0.length ≤ c0) (hl : l0.length ≤ 1048576) (hall : ∀ y ∈ l0, y.f1.size ≤ 1048576) (h : prA [] l0 = (s, e0)) :
    Calls Tryd.prog 13 #[.slice A0 l0.length c0] w fun e w' => e = .returned (.tuple #[.string (toB s), .int .i64 e0]) ∧ Below w.heap.size w w' := by
  have HTb := Aside0.mk hT
  clear hT
  have hu := Tryd.underlying37
  have HR0 := Aside0.mk hr0
  have HA := Lib.hid hall
  have HH := Aside0.mk (show prA [] (l0.drop (0 : Int).toNat) = (s, e0) from h)
  clear h hr0 hc0 hall
  go_enter Tryd.func13, Tryd.ntmps13
  go_wp2
  go_loopw [11] (fun v wr => ∃ (x : Int) (acc : List UInt8), v = .int .i64 x ∧ Aside0 (0 ≤ x ∧ x ≤ (l0.length : Int)) ∧ Aside0 (prA acc (l0.drop x.toNat) = (s, e0)) ∧ Aside0 (acc.length ≤ x.toNat * 5000000) ∧ Lib.IsBuilder 51 5 w.heap.size w.heap.size (Lib.byteCells acc) wr ∧ Below w.heap.size w wr) (fun v _ => ((l0.length : Int) - intOf v).toNat)
  case atStart => exact ⟨0, [], rfl, ⟨by omega⟩, HH, ⟨by simp⟩, Bld.fresh w _ (Nat.le_refl _), (Below.refl _ _).alloc (Nat.le_refl _) _⟩
  case round =>
    obtain ⟨x, acc, rfl, hx, hG, hL, hb, hB⟩ := hrel
    obtain ⟨hx0, hx1⟩ := hx.1
    have hW := hB.size
    by_cases hlt : x < (l0.length : Int)
    · obtain ⟨ad, ea, x0, x1, x2, x3⟩ := at_T37 HR0.1 x hx0 hlt
      cases ea
      obtain ⟨K, hK⟩ : ∃ K_ : S37, K_ = rd_T37 l0 x := ⟨_, rfl⟩
      rw [← hK] at x0 x1 x2 x3
      obtain ⟨hKs, p1, p2, hp, hpl, hor⟩ := prA_step HA.out hG.1 hx0 hlt hK
      clear hK hG
      replace x0 := (hB.cell (World.block_lt_of_cell? w _ x0)).trans x0
      replace x1 := (hB.cell (World.block_lt_of_cell? w _ x1)).trans x1
      replace x2 := (hB.cell (World.block_lt_of_cell? w _ x2)).trans x2
      replace x3 := (hB.cell (World.block_lt_of_cell? w _ x3)).trans x3
      replace hp := Aside0.mk hp
      have hpl2 : acc.length + p1.length + 1 ≤ 100000000000000 := by
        have h3 : x.toNat ≤ 1048576 := by omega
        have h4 := hL.1
        omega
      have hb2 := Aside0.mk hpl2
      have hb3 : Hid (acc.length + p1.length + 1 ≤ (x + 1).toNat * 5000000) := by
        show _ ≤ _
        have h4 := hL.1
        rw [show (x + 1).toNat = x.toNat + 1 from by omega]
        omega
      clear hpl2 hpl
      rcases hor with ⟨rfl, h3⟩ | ⟨h2, e1, e2⟩
      · replace h3 := Aside0.mk h3
        go_wp2_with (first
          | (go_at_call 17; (with_reducible refine (line_as hp.1 _ (Tb.below HTb.1 (Wk.bel_alloc hB _)) hKs).mono ?_); rintro e wz ⟨rfl, hB'⟩; replace hb := Bld.isb_below (Bld.isb_alloc hb _) hB'; replace hB := Wk.bel_call (Wk.bel_alloc hB _) hB'; replace hW := hB.size; clear hB')
          | (go_at_call 25; refine (Bld.str_ _ _ _ _ _ hb (by have := hb2.1; simp; omega) hW).mono ?_; rintro e wy ⟨rfl, hb', hB'⟩; replace hB := hB.trans hB'; replace hW := hB.size; replace hb := hb'; clear hb' hB')
          | (go_at_call 26; refine (Bld.byte_i _ _ _ _ _ hb (by decide) (by decide) (by have := hb2.1; simp only [List.length_append]; simp; omega) hW).mono ?_; rintro e wx ⟨rfl, hb', hB'⟩; replace hB := hB.trans hB'; replace hW := hB.size; replace hb := hb'; clear hb' hB'))
        go_roundw
        case rel => exact ⟨x + 1, _, rfl, ⟨by omega⟩, h3, ⟨by have := hb3.out; simp only [List.length_append, List.length_cons, List.length_nil]; omega⟩, by simpa using hb, hB⟩
        case measure => simp [intOf]; omega
      · subst e1; subst e2
        have q : (e0 != 0) = true := by simpa using h2
        go_wp2_with (first
          | (go_at_call 17; (with_reducible refine (line_as hp.1 _ (Tb.below HTb.1 (Wk.bel_alloc hB _)) hKs).mono ?_); rintro e wz ⟨rfl, hB'⟩; replace hB := Wk.bel_call (Wk.bel_alloc hB _) hB'))
        go_ret2
        exact ⟨rfl, hB⟩
    · have hG2 := hG.1
      rw [List.drop_of_length_le (by omega), prA] at hG2
      replace hG2 := Aside0.mk hG2
      clear hG
      go_wp2_with (go_at_call 27; refine (Tryd.Builder_String_any _ _ _ _ hb hW).mono ?_; rintro e wz ⟨rfl, hB'⟩; replace hB := hB.trans hB')
      go_ret2
      exact ⟨ret_pr hG2.1, hB⟩
set_option maxHeartbeats 4000000 in
set_option maxRecDepth 100000 in
theorem rprint_calls (A0 : Option Addr) (c0 : Nat) (l0 : List S37) (s : List UInt8) (e0 : Int) (w : World) (hr0 : Kd.C k37 w A0 l0.length l0) (hc0 : l0.length ≤ c0) (hl : l0.length ≤ 1048576) (hall : ∀ y ∈ l0, y.f1.size ≤ 1048576) (h : prA [] l0 = (s, e0)) :
    Calls Tryd.prog 14 #[.slice A0 l0.length c0] w fun e w' => e = .returned (.tuple #[.string (toB s), .int .i64 e0]) ∧ Below w.heap.size w w' := by
  have hu := Tryd.underlying37
  have HR0 := Aside0.mk hr0
  have HA := Lib.hid hall
  have HH := Aside0.mk (show prA [] (l0.drop (0 : Int).toNat) = (s, e0) from h)
  clear h hr0 hc0 hall
  obtain ⟨i0, hi, hz0, hz1, hz2⟩ := info_parts infoByte
  go_enter Tryd.func14, Tryd.ntmps14
  go_wp2
  go_loopw [4, 5] (fun b v wr => ∃ (x : Int) (acc : List UInt8), v = .int .i64 x ∧ Aside0 (0 ≤ x ∧ x ≤ (l0.length : Int)) ∧ Aside0 (prA acc (l0.drop x.toNat) = (s, e0)) ∧ Aside0 (acc.length ≤ x.toNat * 5000000) ∧ wr.ownsRow w.heap.size 5 1 b acc.length (Lib.byteCells acc) ∧ Below w.heap.size w wr) (fun _ v _ => ((l0.length : Int) - intOf v).toNat)
  case atStart => exact ⟨0, [], rfl, ⟨by omega⟩, HH, ⟨by simp⟩, World.ownsRow_nil _ _ _ _, Below.refl _ _⟩
  case round =>
    obtain ⟨x, acc, rfl, hx, hG, hL, hb, hB⟩ := hrel
    obtain ⟨hx0, hx1⟩ := hx.1
    have hW := hB.size
    by_cases hlt : x < (l0.length : Int)
    · obtain ⟨ad, ea, x0, x1, x2, x3⟩ := at_T37 HR0.1 x hx0 hlt
      cases ea
      obtain ⟨K, hK⟩ : ∃ K_ : S37, K_ = rd_T37 l0 x := ⟨_, rfl⟩
      rw [← hK] at x0 x1 x2 x3
      obtain ⟨hKs, p1, p2, hp, hpl, hor⟩ := prA_step HA.out hG.1 hx0 hlt hK
      clear hK hG
      replace x0 := (hB.cell (World.block_lt_of_cell? w _ x0)).trans x0
      replace x1 := (hB.cell (World.block_lt_of_cell? w _ x1)).trans x1
      replace x2 := (hB.cell (World.block_lt_of_cell? w _ x2)).trans x2
      replace x3 := (hB.cell (World.block_lt_of_cell? w _ x3)).trans x3
      replace hp := Aside0.mk hp
      have hpl2 : acc.length + p1.length + 1 ≤ 100000000000000 := by
        have h3 : x.toNat ≤ 1048576 := by omega
        have h4 := hL.1
        omega
      have hb2 := Aside0.mk hpl2
      have hb3 : Hid (acc.length + p1.length + 1 ≤ (x + 1).toNat * 5000000) := by
        show _ ≤ _
        have h4 := hL.1
        rw [show (x + 1).toNat = x.toNat + 1 from by omega]
        omega
      clear hpl2 hpl
      rcases hor with ⟨rfl, h3⟩ | ⟨h2, e1, e2⟩
      · replace h3 := Aside0.mk h3
        go_wp2_with (first
          | (go_at_call 18; (with_reducible refine (rline_as hp.1 _ hKs).mono ?_); rintro e wz ⟨rfl, hB'⟩; replace hb := Lib.hid (own_below hb hB'); replace hB := Wk.bel_call hB hB'; replace hW := hB.size; clear hB')
          | (at_builtin; go_loud (refine Lib.wpList_append_own_string _ rfl _ _ 41 9 rfl w.heap.size 5 i0 Tryd.underlying41 Tryd.underlying9 hi hz0 hz1 hz2 _ acc.length _ rfl hb.out (toB p1) rfl ?c1 ?c2 ?c3 ?_)))
        case c1 => have := hb2.1; unfold maxLen; rw [toB_size]; omega
        case c2 => have := hb2.1; rw [toB_size]; omega
        case c3 => exact hW
        intro v2 w2 hq3 hg2 _
        have hB2 : Below w.heap.size w w2 := hB.grown hg2 hW (fun k hk => (hb.out.lt k hk).1)
        have hW2 := hB2.size
        clear hB hb
        have hsz : (toB p1).size = p1.length := toB_size _
        go_wp2_with (at_builtin; go_loud (refine wpList_append_own _ rfl _ _ 41 rfl w.heap.size 5 i0 (.int .u8 0) 1 1 Tryd.underlying41 hi hz0 hz1 hz2 rfl (by decide) _ _ _ rfl (hq3.alloc _) ⟨w2.heap.size, 0, none⟩ 1 1 [.int .u8 10] rfl rfl (cells_new w2 _ 5) (by simp [Value.oneCell']) ?d3 ?d4 ?d5 ?_))
        case d3 => have := hb2.1; unfold maxLen; omega
        case d4 => have := hb2.1; omega
        case d5 => first | omega | (simp; omega)
        intro v3 w3 hb4 hg3 _
        have hB : Below w.heap.size w w3 := (bel_alloc hB2 _).grown hg3 (by simp; omega) (fun k hk => (hq3.lt k hk).1)
        have hb : w3.ownsRow w.heap.size 5 1 v3 (acc ++ p1 ++ [10]).length (Lib.byteCells (acc ++ p1 ++ [10])) := by
          simpa [Lib.byteCells, Lib.strCells, List.map_append, Nat.add_assoc] using hb4
        clear hb4 hg3 hg2
        go_wp2
        go_roundw
        case rel => exact ⟨x + 1, _, rfl, ⟨by omega⟩, h3, ⟨by have := hb3.out; simp only [List.length_append, List.length_cons, List.length_nil]; omega⟩, hb, hB⟩
        case measure => simp [intOf]; omega
      · subst e1; subst e2
        have q : (e0 != 0) = true := by simpa using h2
        go_wp2_with (go_at_call 18; (with_reducible refine (rline_as hp.1 _ hKs).mono ?_); rintro e wz ⟨rfl, hB'⟩; replace hB := Wk.bel_call hB hB')
        go_ret2
        exact ⟨rfl, hB⟩
    · have hG2 := hG.1
      rw [List.drop_of_length_le (by omega), prA] at hG2
      replace hG2 := Aside0.mk hG2
      clear hG
      obtain ⟨A, c, rfl⟩ := own_slice hb
      have hcv := string_of_own (P := Tryd.prog) (src := 41) (dst := 9) Tryd.underlying41 Tryd.underlying5 Tryd.underlying9 hb
      go_wp2
      go_ret2
      exact ⟨ret_pr hG2.1, hB⟩
end Go.Proofs.YtibgefampokfkaaDoor.Sc
