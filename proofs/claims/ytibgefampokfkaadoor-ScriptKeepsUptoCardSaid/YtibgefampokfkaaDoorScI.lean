/- A piece is read as the bytes that it means: the plain law, and the law's walk. -/
import Derived.Test.YtibgefampokfkaaDoorScH
namespace Go.Proofs.YtibgefampokfkaaDoor.Sc
open Go Go.RowKit Go.Proofs.YtibgefampokfkaaDoor.Cut Go.Proofs.YtibgefampokfkaaDoor.PSc
open Go.Proofs.YtibgefampokfkaaDoorW.PrintWords (bt rdOf Kd Drawn0 Reps)
open Go.Proofs.YtibgefampokfkaaDoor.Wk (bcell bel_drew bel_alloc bel_set bel_call size_len mk_data blk_alloc blk_below blk_drewN blk_cell)
set_option linter.unusedVariables false
set_option linter.unusedSimpArgs false

theorem pc_print : ∀ (c : UInt8), ∀ x ∈ pc c, 32 ≤ x ∧ x ≤ 126 := by
  have h : ∀ i : Fin 256, (pc (UInt8.ofNat i.val)).all (fun x => decide (32 ≤ x ∧ x ≤ 126)) = true := by decide +kernel
  intro c x hx
  have := h ⟨c.toNat, c.toNat_lt⟩
  simp only [UInt8.ofNat_toNat] at this
  exact of_decide_eq_true (List.all_eq_true.mp this x hx)
theorem piece_print (l : List UInt8) : ∀ x ∈ piece l, 32 ≤ x ∧ x ≤ 126 := by
  intro x hx
  obtain ⟨c, _, hc⟩ := List.mem_flatMap.mp hx
  exact pc_print c x hc
theorem piece_append (a b : List UInt8) : piece (a ++ b) = piece a ++ piece b := by simp [piece]
theorem hx_hexOf' : ∀ i : Nat, i < 16 → hx (hexOf i) = some i := by
  have h : ∀ i : Fin 16, hx (hexOf i.val) = some i.val := by decide +kernel
  exact fun i hi => h ⟨i, hi⟩
theorem one_pc (c : UInt8) (r : List UInt8) : one (pc c ++ r) = some (c, r) := by
  unfold pc
  by_cases h1 : c = 92
  · subst h1; rfl
  rw [if_neg h1]
  by_cases h2 : 32 ≤ c ∧ c ≤ 126
  · rw [if_pos h2]
    show one (c :: r) = _
    have e : ¬ (c < 32 ∨ 126 < c) := by
      rintro (h | h)
      · exact absurd h2.1 (UInt8.not_le.mpr h)
      · exact absurd h2.2 (UInt8.not_le.mpr h)
    rw [one, if_neg e, if_neg h1]
  rw [if_neg h2]
  by_cases h3 : c = 10
  · subst h3; rfl
  rw [if_neg h3]
  by_cases h4 : c = 13
  · subst h4; rfl
  rw [if_neg h4]
  by_cases h5 : c = 9
  · subst h5; rfl
  rw [if_neg h5]
  by_cases h6 : c = 27
  · subst h6; rfl
  rw [if_neg h6]
  have hc := c.toNat_lt
  show slash (120 :: hexOf (c.toNat / 16) :: hexOf (c.toNat % 16) :: r) = _
  have e : slash (120 :: hexOf (c.toNat / 16) :: hexOf (c.toNat % 16) :: r) = hex2 (hexOf (c.toNat / 16) :: hexOf (c.toNat % 16) :: r) := rfl
  rw [e, hex2_some r (hx_hexOf' _ (by omega)) (hx_hexOf' _ (by omega))]
  congr 2
  rw [← UInt8.toNat_inj, UInt8.toNat_ofNat']
  omega
theorem unpiece_piece (l : List UInt8) : unpiece (piece l) = some l := by
  induction l with
  | nil => rfl
  | cons c r ih =>
    have h := one_pc c (piece r)
    have hne : pc c ++ piece r ≠ [] := fun e => by rw [e] at h; simp [one] at h
    have e : piece (c :: r) = pc c ++ piece r := by simp [piece]
    rw [e]
    obtain ⟨x, t, hx⟩ := List.exists_cons_of_ne_nil hne
    rw [hx] at h ⊢
    rw [unpiece_cons, h]
    simp [ih]
theorem unpR_piece (l : List UInt8) : unpR (piece l) = (l, true) := by unfold unpR; rw [unpiece_piece]
theorem cut1_no (c : UInt8) : ∀ l : List UInt8, (∀ x ∈ l, x ≠ c) → cut1 c l = (l, [], false)
  | [], _ => rfl
  | x :: r, h => by
    rw [cut1, if_neg (h x (by simp)), cut1_no c r (fun y hy => h y (by simp [hy]))]
theorem cut1_end (c : UInt8) (t : List UInt8) : ∀ l : List UInt8, (∀ x ∈ l, x ≠ c) → cut1 c (l ++ c :: t) = (l, t, true)
  | [], _ => by simp [cut1]
  | x :: r, h => by
    rw [List.cons_append, cut1, if_neg (h x (by simp)), cut1_end c t r (fun y hy => h y (by simp [hy]))]
theorem typed_nl (p : List UInt8) (hp : ∀ x ∈ p, 32 ≤ x ∧ x ≤ 126) : ∀ x ∈ ([116, 121, 112, 101, 32] ++ p : List UInt8), x ≠ 10 := by
  intro x hx
  rcases List.mem_append.mp hx with h | h
  · intro e; subst e; simp at h
  · intro e; subst e; have := (hp _ h).1; exact absurd this (by decide)
theorem lines_one {l : List UInt8} (hne : l ≠ []) (h : ∀ x ∈ l, x ≠ 10) : lines l = [l] := by
  rw [lines_cut l hne, cut1_no 10 l h]; rfl
theorem lines_end {l : List UInt8} (h : ∀ x ∈ l, x ≠ 10) (t : List UInt8) : lines (l ++ 10 :: t) = l :: lines t := by
  rw [lines_cut _ (by simp), cut1_end 10 t l h]
theorem evS_typed (a : List UInt8) : evS ([116, 121, 112, 101, 32] ++ piece a) = ⟨1, toB a, 0, 0⟩ ∧ evOk ([116, 121, 112, 101, 32] ++ piece a) = true := by
  unfold evS evOk
  rw [evt_type, unpR_piece]
  exact ⟨rfl, rfl⟩
theorem rd_typed (a : List UInt8) : rd ([116, 121, 112, 101, 32] ++ piece a) = ([⟨1, toB a, 0, 0⟩], 0, 0) := by
  unfold rd
  rw [lines_one (by simp) (typed_nl _ (piece_print a)), rdL, if_neg (by simp [skip]), if_pos (evS_typed a).2, (evS_typed a).1]
  rfl
theorem rd_typed_nl (a : List UInt8) : rd ([116, 121, 112, 101, 32] ++ piece a ++ [10]) = ([⟨1, toB a, 0, 0⟩], 0, 0) := by
  unfold rd
  rw [lines_end (typed_nl _ (piece_print a)) [], rdL, if_neg (by simp [skip]), if_pos (evS_typed a).2, (evS_typed a).1]
  rfl

theorem fixed_calls (w : World) : Calls Tryd.prog 9 #[] w fun e w' => e = .returned (.bool true) ∧ Below w.heap.size w w' :=
  bodkinlaw24_fixed.calls 200 true w (fixed_true 200 (Nat.le_refl _))
theorem piece_as {s P : ByteArray} (h : piece s.data.toList = P.data.toList) (w : World) (hs : s.size ≤ 1000000000) :
    Calls Tryd.prog 15 #[.string s] w fun e w' => e = .returned (.string P) ∧ Below w.heap.size w w' :=
  (piece_calls s w hs).mono (by rintro e w' ⟨rfl, hb⟩; exact ⟨by rw [h, mk_data], hb⟩)
theorem read_as {s : ByteArray} {L : List S37} {n e0 : Int} (h : rd s.data.toList = (L, n, e0)) (w : World) (hs : s.size ≤ 1000000000) :
    Calls Tryd.prog 10 #[.string s] w fun e w' => ∃ (A : Option Addr) (c : Nat), e = .returned (.tuple #[.slice A L.length c, .int .i64 n, .int .i64 e0]) ∧ Kd.C k37 w' A L.length L ∧ L.length ≤ c ∧ Below w.heap.size w w' :=
  (script_Read.calls (2 * s.size + 1) s L n e0 w (by rw [readf' s hs _ (Nat.le_refl _), h])).mono (by
    rintro e w' ⟨v, rfl, hR, hb⟩
    obtain ⟨A, c, rfl⟩ := Kd.R_slice hR
    exact ⟨A, c, rfl, (Kd.R_reads' hR).2.2, (Kd.R_reads' hR).2.1, hb⟩)
theorem same_as (L : List S37) (hl : L.length ≤ 1000000000) (A0 A1 : Option Addr) (c0 c1 : Nat) (w : World) (h0 : Kd.C k37 w A0 L.length L) (hc0 : L.length ≤ c0) (h1 : Kd.C k37 w A1 L.length L) (hc1 : L.length ≤ c1) :
    Calls Tryd.prog 12 #[.slice A0 L.length c0, .slice A1 L.length c1] w fun e w' => e = .returned (.bool true) ∧ ∃ n, w' = w.drewN n :=
  (bodkinlaw24_same.calls (L.length + 1) A0 c0 L A1 c1 L true w h0 hc0 h1 hc1 (same_self L hl _ (Nat.le_refl _))).mono (by rintro e w' ⟨rfl, ⟨nd, rfl⟩⟩; exact ⟨rfl, nd, rfl⟩)
theorem same_one (x : S37) (A0 A1 : Option Addr) (c0 c1 : Nat) (w : World) (h0 : Kd.C k37 w A0 1 [x]) (hc0 : 1 ≤ c0) (h1 : Kd.C k37 w A1 1 [x]) (hc1 : 1 ≤ c1) :
    Calls Tryd.prog 12 #[.slice A0 1 c0, .slice A1 1 c1] w fun e w' => e = .returned (.bool true) ∧ ∃ n, w' = w.drewN n :=
  same_as [x] (by simp) A0 A1 c0 c1 w h0 hc0 h1 hc1
theorem lit_C {w : World} {g : Nat} {a : Int} {b : ByteArray} {c d : Int} (h : w.heap[g]? = some (.cells #[.int .i64 a, .string b, .int .i64 c, .int .i64 d] 37 (0, 0))) : Kd.C k37 w (some ⟨g, 0, none⟩) 1 [(⟨a, b, c, d⟩ : S37)] := by
  refine ⟨rfl, by decide, fun _ => ⟨_, rfl, fun j p hp => ?_⟩⟩
  match j, hp with
  | 0, hp =>
    simp at hp
    subst hp
    refine ⟨_, rfl, k37_mk w _, fun i u hu => ?_⟩
    match i, hu with
    | 0, hu => simp at hu; subst hu; exact blk_cell h 0
    | 1, hu => simp at hu; subst hu; exact blk_cell h 1
    | 2, hu => simp at hu; subst hu; exact blk_cell h 2
    | 3, hu => simp at hu; subst hu; exact blk_cell h 3
theorem lit_new {W : World} {g : Nat} {a : Int} {b : ByteArray} {c d : Int} (hg : g = W.heap.size) : Kd.C k37 (W.alloc (.cells #[.int .i64 a, .string b, .int .i64 c, .int .i64 d] 37)) (some ⟨g, 0, none⟩) 1 [(⟨a, b, c, d⟩ : S37)] := by
  subst hg; exact lit_C (heap_alloc_new _ _)

set_option maxHeartbeats 4000000 in
set_option maxRecDepth 100000 in
theorem pieces_calls (a b : ByteArray) (w : World) (ha : a.size ≤ 10000000) (hb : b.size ≤ 10000000) :
    Calls Tryd.prog 6 #[.string a, .string b] w fun e w' => e = .returned (.bool true) ∧ Below w.heap.size w w' := by
  obtain ⟨P, hP⟩ : ∃ P : ByteArray, piece a.data.toList = P.data.toList := ⟨toB (piece a.data.toList), by simp⟩
  obtain ⟨Q, hQ⟩ : ∃ P : ByteArray, piece b.data.toList = P.data.toList := ⟨toB (piece b.data.toList), by simp⟩
  have pl := piece_len a.data.toList
  have ql := piece_len b.data.toList
  rw [hP, size_len, size_len] at pl
  rw [hQ, size_len, size_len] at ql
  have hPs : P.size ≤ 40000000 := by omega
  have hQs : Q.size ≤ 40000000 := by omega
  have HP := Lib.hid hP
  have HQ := Lib.hid hQ
  have hab : Hid (piece (a ++ b).data.toList = (P ++ Q).data.toList) := by
    show _ = _
    rw [ByteArray.data_append, ByteArray.data_append, Array.toList_append, Array.toList_append, piece_append, hP, hQ]
  have R1 : Hid (rd ((⟨#[116, 121, 112, 101, 32]⟩ : ByteArray) ++ P).data.toList = ([⟨1, a, 0, 0⟩], 0, 0)) := by
    show _ = _
    rw [ByteArray.data_append, Array.toList_append, ← hP]
    exact (rd_typed a.data.toList).trans (by rw [toB_of])
  have R2 : Hid (rd ((⟨#[116, 121, 112, 101, 32]⟩ : ByteArray) ++ P ++ Q ++ (⟨#[10]⟩ : ByteArray)).data.toList = ([⟨1, a ++ b, 0, 0⟩], 0, 0)) := by
    show _ = _
    rw [ByteArray.data_append, Array.toList_append, ByteArray.data_append, Array.toList_append, ByteArray.data_append, Array.toList_append, ← hP, ← hQ, List.append_assoc [116, 121, 112, 101, 32], ← piece_append, ← Array.toList_append, ← ByteArray.data_append]
    exact (rd_typed_nl (a ++ b).data.toList).trans (by rw [toB_of])
  have hprint : Hid (∀ (i : Nat) (h : i < P.size), 32 ≤ (P[i].toNat : Int) ∧ (P[i].toNat : Int) ≤ 126) := by
    show ∀ (i : Nat) (h : i < P.size), _
    intro i h
    have := piece_print a.data.toList P[i] (by rw [hP]; exact List.getElem_mem (l := P.data.toList) (by simpa using h))
    rw [UInt8.le_iff_toNat_le, UInt8.le_iff_toNat_le] at this
    simp at this
    omega
  clear hP hQ pl ql
  have hsz : (a ++ b).size ≤ 1000000000 := by rw [ByteArray.size_append]; omega
  have hs1 : ((⟨#[116, 121, 112, 101, 32]⟩ : ByteArray) ++ P).size ≤ 1000000000 := by rw [ByteArray.size_append, show (⟨#[116, 121, 112, 101, 32]⟩ : ByteArray).size = 5 from rfl]; omega
  have hs2 : ((⟨#[116, 121, 112, 101, 32]⟩ : ByteArray) ++ P ++ Q).size ≤ 900000000 := by rw [ByteArray.size_append, ByteArray.size_append, show (⟨#[116, 121, 112, 101, 32]⟩ : ByteArray).size = 5 from rfl]; omega
  have hs3 : ((⟨#[116, 121, 112, 101, 32]⟩ : ByteArray) ++ P ++ Q ++ (⟨#[10]⟩ : ByteArray)).size ≤ 1000000000 := by rw [ByteArray.size_append, show (⟨#[10]⟩ : ByteArray).size = 1 from rfl]; omega
  go_enter Tryd.func6, Tryd.ntmps6
  go_wp2_with (first
    | (go_at_call 9; refine (fixed_calls _).mono ?_; rintro e w1 ⟨rfl, hB⟩)
    | (go_at_call 15; (with_reducible refine (piece_as HP.out _ (by omega)).mono ?_); rintro e w2 ⟨rfl, hb1⟩; replace hB := bel_call hB hb1; clear hb1)
    | (go_at_call 15; (with_reducible refine (piece_as HQ.out _ (by omega)).mono ?_); rintro e w3 ⟨rfl, hb1⟩; replace hB := bel_call hB hb1; clear hb1))
  replace hB := Lib.hid hB
  go_loop [7] (fun v => ∃ i : Nat, v = .int .i64 i ∧ i ≤ P.size) (fun v => P.size - (intOf v).toNat)
  case atStart => exact ⟨0, rfl, Nat.zero_le _⟩
  case round =>
    obtain ⟨i, rfl, hi⟩ := hrel
    by_cases hlt : i < P.size
    · obtain ⟨h1, h2⟩ := hprint.out i hlt
      go_wp2
      go_round
      case rel => exact ⟨i + 1, by go_num, by omega⟩
      case measure => simp [intOf]; omega
    · go_wp2_with (first
        | (go_at_call 10; (with_reducible refine (read_as R1.out _ hs1).mono ?_); rintro e w4 ⟨A1, c1, rfl, hC1, hc1, hb1⟩; replace hB := Lib.hid (bel_call hB.out hb1); clear hb1; replace hC1 := Lib.hid hC1)
        | (go_at_call 12; refine (same_one (⟨1, a, 0, 0⟩ : S37) _ _ _ _ _ ?s1 ?s2 ?s3 ?s4).mono ?_; (case s1 => exact Kd.C_alloc hC1.out _); (case s2 => simpa using hc1); (case s3 => exact lit_C (heap_alloc_new _ _)); (case s4 => exact Nat.le_refl _); rintro e w' ⟨rfl, n1, rfl⟩)
        | (go_at_call 12; refine (same_one (⟨1, a ++ b, 0, 0⟩ : S37) _ _ _ _ _ ?s5 ?s6 ?s7 ?s8).mono ?_; (case s5 => exact Kd.C_alloc (Kd.C_drewN (Kd.C_alloc hC2.out _) _) _); (case s6 => simpa using hc2); (case s7 => exact lit_new (by simp [Wk.heap_drewN])); (case s8 => exact Nat.le_refl _); rintro e w' ⟨rfl, n2, rfl⟩)
        | (go_at_call 15; (with_reducible refine (piece_as hab.out _ hsz).mono ?_); rintro e w6 ⟨rfl, hb9⟩)
        | (go_at_call 10; (with_reducible refine (read_as R2.out _ hs3).mono ?_); rintro e w5 ⟨A2, c2, rfl, hC2, hc2, hb1⟩; replace hB := Lib.hid (bel_call hB.out hb1); replace hC1 := Lib.hid (Kd.C_below hC1.out hb1); clear hb1; replace hC2 := Lib.hid hC2))
      go_ret
      refine ⟨rfl, ?_⟩
      · exact bel_call (bel_drewN (bel_alloc (bel_drewN (bel_alloc hB.out _) _) _) _) hb9
end Go.Proofs.YtibgefampokfkaaDoor.Sc
