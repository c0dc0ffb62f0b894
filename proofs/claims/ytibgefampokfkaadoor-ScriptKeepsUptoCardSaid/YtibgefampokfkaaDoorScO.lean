/- What is printed is read back, what is read is printed: the law's walk. -/
import Derived.Test.YtibgefampokfkaaDoorScN
namespace Go.Proofs.YtibgefampokfkaaDoor.Sc
open Go Go.RowKit Go.Proofs.YtibgefampokfkaaDoor.Cut Go.Proofs.YtibgefampokfkaaDoor.PSc
open Go.Proofs.YtibgefampokfkaaDoorW.PrintWords (bt rdOf Kd Drawn0 Reps Aside0)
open Go.Proofs.YtibgefampokfkaaDoorW.PrintLast
open Go.Proofs.YtibgefampokfkaaDoor.Wk (bcell bel_drew bel_drewN bel_alloc bel_set bel_call size_len mk_data blk_alloc blk_below blk_drewN blk_cell string_of_own own_slice own_below beq_true_i bne_true_i bne_false_i cells_new var_below)
set_option linter.unusedVariables false
set_option linter.unusedSimpArgs false
set_option maxHeartbeats 4000000 in
set_option maxRecDepth 100000 in
theorem bare_calls (x : S37) (w : World) : Calls Tryd.prog 19 #[.agg #[.int .i64 x.f0, .string x.f1, .int .i64 x.f2, .int .i64 x.f3]] w fun e w' => e = .returned (.agg #[.int .i64 (bareS x).f0, .string (bareS x).f1, .int .i64 (bareS x).f2, .int .i64 (bareS x).f3]) ∧ Below w.heap.size w w' := by
  obtain ⟨k, b, n, t⟩ := x
  simp only
  by_cases h1 : k = 1
  · subst h1
    rw [show bareS ⟨1, b, n, t⟩ = ⟨1, b, 0, 0⟩ from rfl]
    go_enter Tryd.func19, Tryd.ntmps19
    go_wp2
    refine bodyPost_ret (v := .agg #[.int .i64 1, .string b, .int .i64 0, .int .i64 0]) (by simp [results, Tryd.results19, go_sem]) rfl ⟨rfl, ?_⟩
    repeat (with_reducible first | refine bel_drewN ?_ _ | refine bel_drew ?_ | refine bel_alloc ?_ _ | refine bel_set ?_ (Nat.le_refl _) _ | refine bel_set ?_ (Nat.le_succ _) _ | exact Below.refl _ _)
  have q1 : (k == 1) = false := beq_false_i h1
  by_cases h2 : k = 2
  · subst h2
    rw [show bareS ⟨2, b, n, t⟩ = ⟨2, ⟨#[]⟩, n, 0⟩ from rfl]
    go_enter Tryd.func19, Tryd.ntmps19
    go_wp2
    refine bodyPost_ret (v := .agg #[.int .i64 2, .string ⟨#[]⟩, .int .i64 n, .int .i64 0]) (by simp [results, Tryd.results19, go_sem]) rfl ⟨rfl, ?_⟩
    repeat (with_reducible first | refine bel_drewN ?_ _ | refine bel_drew ?_ | refine bel_alloc ?_ _ | refine bel_set ?_ (Nat.le_refl _) _ | refine bel_set ?_ (Nat.le_succ _) _ | exact Below.refl _ _)
  have q2 : (k == 2) = false := beq_false_i h2
  rw [show bareS ⟨k, b, n, t⟩ = ⟨k, ⟨#[]⟩, 0, t⟩ from by unfold bareS; rw [if_neg h1, if_neg h2]]
  clear h1 h2
  go_enter Tryd.func19, Tryd.ntmps19
  go_wp2
  refine bodyPost_ret (v := .agg #[.int .i64 k, .string ⟨#[]⟩, .int .i64 0, .int .i64 t]) (by simp [results, Tryd.results19, go_sem]) rfl ⟨rfl, ?_⟩
  repeat (with_reducible first | refine bel_drewN ?_ _ | refine bel_drew ?_ | refine bel_alloc ?_ _ | refine bel_set ?_ (Nat.le_refl _) _ | refine bel_set ?_ (Nat.le_succ _) _ | exact Below.refl _ _)
theorem read_asn {s : ByteArray} {L : List S37} {n e0 : Int} (h : rd s.data.toList = (L, n, e0)) {m : Nat} (hm : L.length = m) (w : World) (hs : s.size ≤ 1000000000) :
    Calls Tryd.prog 10 #[.string s] w fun e w' => ∃ (A : Option Addr) (c : Nat), e = .returned (.tuple #[.slice A m c, .int .i64 n, .int .i64 e0]) ∧ Kd.C k37 w' A m L ∧ m ≤ c ∧ Below w.heap.size w w' := by
  subst hm; exact read_as h w hs
theorem eqb_self (K : S37) : eqb37 K.f0 K.f0 K.f1 K.f1 K.f2 K.f2 K.f3 K.f3 = true := eqb37_self _ _ _ _
def bkT11 : Bool × List (List Nat × List Nat) := (true, [([], []), ([], []), ([0, 1], [0, 1]), ([2], [2]), ([], []), ([], []), ([4, 5], [4, 5]), ([6], [6]), ([7], [7]), ([3, 8], [3, 8])])
def bkB11 : List Nat := [0, 0, 3, 7, 0, 0, 48, 112, 240, 511]
theorem bktab11 : rtab .any (opsOf Tryd.f5 11) = bkT11 := by kernel_rfl
theorem bkbits11 : waitsOk bkT11.2 bkB11 = true := by kernel_rfl
set_option maxHeartbeats 8000000 in
set_option maxRecDepth 100000 in
theorem backs_calls (A0 : Option Addr) (c0 : Nat) (l0 : List S37) (t : ByteArray) (w : World) (hT : Tb w) (hr0 : Kd.C k37 w A0 l0.length l0) (hc0 : l0.length ≤ c0) (hsum : (l0.map szS).sum ≤ 1048576) (ht : t.size ≤ 1048576) :
    Calls Tryd.prog 5 #[.slice A0 l0.length c0, .string t] w fun e w' => e = .returned (.bool true) ∧ Below w.heap.size w w' := by
  have hl : l0.length ≤ 1048576 := Nat.le_trans (sum_len l0) hsum
  have hall : ∀ y ∈ l0, y.f1.size ≤ 1048576 := fun y hy => Nat.le_trans (sum_mem l0 y hy) hsum
  have HTb := Lib.hid hT
  have hu := Tryd.underlying37
  have HR0 := Aside0.mk hr0
  have HA := Lib.hid hall
  have hrs := rd_sum t.data.toList
  rw [size_len] at hrs
  have hrt := rd_cases t.data.toList
  obtain ⟨s, e0, hse⟩ : ∃ s e, prA [] l0 = (s, e) := ⟨_, _, rfl⟩
  have HS := Lib.hid hse
  clear hT hr0 hall
  go_enter Tryd.func5, Tryd.ntmps5
  go_upto_if 26 with (first
    | (go_at_call 9; refine (fixed_calls _).mono ?_; rintro e w1 ⟨rfl, hB⟩)
    | (go_at_call 13; (with_reducible refine (print_calls _ _ l0 s e0 _ (Tb.below HTb.out hB) (Kd.C_below HR0.out hB) hc0 hl HA.out HS.out).mono ?_); rintro e w4 ⟨rfl, hb4⟩; replace hB := bel_call hB hb4; clear hb4))
  (try simp only [Act.put, List.setIfInBounds_toArray, List.set_cons_zero, List.set_cons_succ])
  replace hB := Lib.hid hB
  go_cut [] (fun wc => Below w.heap.size w wc)
  case first =>
    by_cases h0 : e0 = 0
    · subst h0
      obtain ⟨hok, hs⟩ := prA_ok l0 [] s hse
      rw [List.nil_append] at hs
      have R1 : Hid (rd (toB s).data.toList = (l0.map bareS, 0, 0)) := by show _ = _; rw [toB_list, hs]; exact rd_txt l0 hok
      have hsz : (toB s).size ≤ 1000000000 := by have := txt_len l0; rw [toB_size, hs]; omega
      obtain ⟨M, hM⟩ : ∃ M, l0.map bareS = M := ⟨_, rfl⟩
      have hMl : M.length = l0.length := by rw [← hM]; simp
      have hMx : Hid (∀ x : Int, 0 ≤ x → x < (l0.length : Int) → rd_T37 M x = bareS (rd_T37 l0 x)) := by
        show ∀ x, _
        intro x h0 h1
        unfold rd_T37
        have hh : x.toNat < l0.length := by omega
        rw [← hM, List.getD_eq_getElem?_getD, List.getD_eq_getElem?_getD, List.getElem?_map, List.getElem?_eq_getElem hh]
        rfl
      rw [hM] at R1
      clear hok hs hse hM hrs hrt HS
      go_wp2_with (go_at_call 10; (with_reducible refine (read_asn R1.out hMl _ hsz).mono ?_); rintro e w5 ⟨A1, c1, rfl, hC1, hc1, hb5⟩; replace hB := Lib.hid (bel_call hB.out hb5); clear hb5)
      have HC := Aside0.mk hC1
      clear hC1
      go_loopw [10] (fun v wr => ∃ x : Int, v = .int .i64 x ∧ Hid (0 ≤ x ∧ x ≤ (l0.length : Int)) ∧ Hid (Below w.heap.size w wr) ∧ Hid (Kd.C k37 wr A1 l0.length M)) (fun v _ => ((l0.length : Int) - intOf v).toNat)
      case atStart => exact ⟨0, rfl, ⟨by omega, by omega⟩, hB, HC.out⟩
      case round =>
       clear hB HC
       obtain ⟨x, rfl, hx, HB, HC⟩ := hrel
       obtain ⟨hx0, hx1⟩ := hx.out
       by_cases hlt : x < (l0.length : Int)
       · obtain ⟨ad, ea, x0, x1, x2, x3⟩ := at_T37 HC.out x hx0 hlt
         cases ea
         obtain ⟨ae, eb, y0, y1, y2, y3⟩ := at_T37 HR0.out x hx0 hlt
         cases eb
         rw [hMx.out x hx0 hlt] at x0 x1 x2 x3
         obtain ⟨K, hK⟩ : ∃ K_ : S37, rd_T37 l0 x = K_ := ⟨_, rfl⟩
         rw [hK] at x0 x1 x2 x3 y0 y1 y2 y3
         clear hK
         obtain ⟨E, hE⟩ : ∃ E, bareS K = E := ⟨_, rfl⟩
         have hbc := fun W => bare_calls K W
         rw [hE] at x0 x1 x2 x3 hbc
         replace hbc := Lib.hid hbc
         clear hE
         have hEE := eqb_self E
         have p0 := eq_true hx0
         have pM : (x < (l0.length : Int)) = True := eq_true hlt
         replace y0 := (HB.out.cell (World.block_lt_of_cell? w _ y0)).trans y0
         replace y1 := (HB.out.cell (World.block_lt_of_cell? w _ y1)).trans y1
         replace y2 := (HB.out.cell (World.block_lt_of_cell? w _ y2)).trans y2
         replace y3 := (HB.out.cell (World.block_lt_of_cell? w _ y3)).trans y3
         go_wp2_with fail
         refine start_ (n := 10) (S := fun w' => w'.cell? (ad.add (x.toNat * 4)) = some (.int .i64 E.f0) ∧ w'.cell? ⟨(ad.add (x.toNat * 4)).block, (ad.add (x.toNat * 4)).off + 1, none⟩ = some (.string E.f1) ∧ w'.cell? ⟨(ad.add (x.toNat * 4)).block, (ad.add (x.toNat * 4)).off + 2, none⟩ = some (.int .i64 E.f2) ∧ w'.cell? ⟨(ad.add (x.toNat * 4)).block, (ad.add (x.toNat * 4)).off + 3, none⟩ = some (.int .i64 E.f3) ∧ w'.cell? (ae.add (x.toNat * 4)) = some (.int .i64 K.f0) ∧ w'.cell? ⟨(ae.add (x.toNat * 4)).block, (ae.add (x.toNat * 4)).off + 1, none⟩ = some (.string K.f1) ∧ w'.cell? ⟨(ae.add (x.toNat * 4)).block, (ae.add (x.toNat * 4)).off + 2, none⟩ = some (.int .i64 K.f2) ∧ w'.cell? ⟨(ae.add (x.toNat * 4)).block, (ae.add (x.toNat * 4)).off + 3, none⟩ = some (.int .i64 K.f3)) (ds := []) #[false, false, false, false, false, false, false, false, false, false] (by kernel_rfl) rfl rfl ⟨x0, x1, x2, x3, y0, y1, y2, y3⟩ (fun hHeld => ?_); refine with_tabW bktab11 bkbits11 (fun HT_ HW_ => ?_)
         have HB2 : Hid (Below w.heap.size w wr.drew) := bel_drew HB.out
         have HC2 : Hid (Kd.C k37 wr.drew (some ad) l0.length M) := Kd.C_drew HC.out
         generalize wr.drew = wd at HB2 HC2 hHeld ⊢
         refine pure_ (i := 0) (N := some 52) (v := ?_) (a' := ?_) #[true, false, false, false, false, false, false, false, false, false] rfl rfl (any_of HT_.out (by kernel_rfl)) (fun _ _ _ h => h) (Or.inl ⟨by rfl, ?_⟩) ?_ ?_
         rotate_left
         · intro w'
           go_simp
           with_reducible rfl
         rotate_left
         · simp only [Act.put, List.setIfInBounds_toArray, List.set_cons_zero, List.set_cons_succ, i64_w, i32_w]
           rfl
         refine pure_ (i := 1) (N := some 53) (v := ?_) (a' := ?_) #[true, true, false, false, false, false, false, false, false, false] rfl rfl (any_of HT_.out (by kernel_rfl)) (fun _ _ _ h => h) (Or.inl ⟨by rfl, ?_⟩) ?_ ?_
         rotate_left
         · intro w'
           go_simp
           with_reducible rfl
         rotate_left
         · simp only [Act.put, List.setIfInBounds_toArray, List.set_cons_zero, List.set_cons_succ, i64_w, i32_w]
           rfl
         refine pure_ (i := 2) (N := some 54) (v := ?_) (a' := ?_) #[true, true, true, false, false, false, false, false, false, false] rfl rfl (any_of HT_.out (by kernel_rfl)) (fun _ _ _ h => h) (Or.inl ⟨by rfl, ?_⟩) ?_ ?_
         rotate_left
         · intro w'
           go_simp
           with_reducible rfl
         rotate_left
         · simp only [Act.put, List.setIfInBounds_toArray, List.set_cons_zero, List.set_cons_succ, i64_w, i32_w]
           rfl
         refine pure_ (i := 4) (N := some 56) (v := ?_) (a' := ?_) #[true, true, true, false, true, false, false, false, false, false] rfl rfl (any_of HT_.out (by kernel_rfl)) (fun _ _ _ h => h) (Or.inl ⟨by rfl, ?_⟩) ?_ ?_
         rotate_left
         · intro w'
           go_simp
           with_reducible rfl
         rotate_left
         · simp only [Act.put, List.setIfInBounds_toArray, List.set_cons_zero, List.set_cons_succ, i64_w, i32_w]
           rfl
         refine pure_ (i := 5) (N := some 57) (v := ?_) (a' := ?_) #[true, true, true, false, true, true, false, false, false, false] rfl rfl (any_of HT_.out (by kernel_rfl)) (fun _ _ _ h => h) (Or.inl ⟨by rfl, ?_⟩) ?_ ?_
         rotate_left
         · intro w'
           go_simp
           with_reducible rfl
         rotate_left
         · simp only [Act.put, List.setIfInBounds_toArray, List.set_cons_zero, List.set_cons_succ, i64_w, i32_w]
           rfl
         refine pure_ (i := 6) (N := some 58) (v := ?_) (a' := ?_) #[true, true, true, false, true, true, true, false, false, false] rfl rfl (any_of HT_.out (by kernel_rfl)) (fun _ _ _ h => h) (Or.inl ⟨by rfl, ?_⟩) ?_ ?_
         rotate_left
         · intro w'
           go_simp
           with_reducible rfl
         rotate_left
         · simp only [Act.put, List.setIfInBounds_toArray, List.set_cons_zero, List.set_cons_succ, i64_w, i32_w]
           rfl
         refine take_ (i := 3) (N := some 55) (v := ?_) (a' := ?_) #[true, true, true, true, true, true, true, false, false, false] rfl rfl (take_ofW HT_.out HW_.out (by kernel_rfl)) (fun _ _ _ h => h) (Or.inl ⟨by rfl, ?_⟩) hHeld ?_ ?_
         rotate_left
         · rintro w' ⟨s0, s1, s2, s3, s4, s5, s6, s7⟩
           go_simp
           with_reducible rfl
         rotate_left
         · simp only [Act.put, List.setIfInBounds_toArray, List.set_cons_zero, List.set_cons_succ, i64_w, i32_w]
           rfl
         refine take_ (i := 7) (N := some 59) (v := ?_) (a' := ?_) #[true, true, true, true, true, true, true, true, false, false] rfl rfl (take_ofW HT_.out HW_.out (by kernel_rfl)) (fun _ _ _ h => h) (Or.inl ⟨by rfl, ?_⟩) hHeld ?_ ?_
         rotate_left
         · rintro w' ⟨s0, s1, s2, s3, s4, s5, s6, s7⟩
           go_simp
           with_reducible rfl
         rotate_left
         · simp only [Act.put, List.setIfInBounds_toArray, List.set_cons_zero, List.set_cons_succ, i64_w, i32_w]
           rfl
         refine one_ (i := 8) (N := some 60) #[true, true, true, true, true, true, true, true, true, false] rfl rfl (Go.Proofs.YtibgefampokfkaaDoorW.PrintLast.one_of HT_.out (by kernel_rfl)) (by decide) (fun K' hK => ?_)
         refine goes_ Tryd.func19 (by kernel_rfl) rfl #[.agg #[.int .i64 K.f0, .string K.f1, .int .i64 K.f2, .int .i64 K.f3]] (by rfl) rfl rfl (by (try simp only [List.map_toArray, List.map_cons, List.map_nil]); first | done | rfl) ?_
         with_reducible refine (hbc.out _).mono ?_
         rintro e w2 ⟨rfl, hb⟩
         obtain ⟨s0, s1, s2, s3, s4, s5, s6, s7⟩ := hHeld
         have HB3 : Hid (Below w.heap.size w w2) := bel_call HB2.out hb
         have HC3 : Hid (Kd.C k37 w2 (some ad) l0.length M) := Kd.C_below HC2.out hb
         refine ⟨_, rfl, ?_⟩
         refine hK.out _ _ ⟨(hb.cell (World.block_lt_of_cell? _ _ s0)).trans s0, (hb.cell (World.block_lt_of_cell? _ _ s1)).trans s1, (hb.cell (World.block_lt_of_cell? _ _ s2)).trans s2, (hb.cell (World.block_lt_of_cell? _ _ s3)).trans s3, (hb.cell (World.block_lt_of_cell? _ _ s4)).trans s4, (hb.cell (World.block_lt_of_cell? _ _ s5)).trans s5, (hb.cell (World.block_lt_of_cell? _ _ s6)).trans s6, (hb.cell (World.block_lt_of_cell? _ _ s7)).trans s7⟩ (fun hHeld => ?_)
         clear hK K'
         refine norm_ (a' := ?_) ?_ ?_
         rotate_left
         · show Act.put _ (some 60) _ = _
           simp only [Act.put, List.setIfInBounds_toArray, List.set_cons_zero, List.set_cons_succ, i64_w, i32_w]
           rfl
         refine pure_ (i := 9) (N := some 61) (v := ?_) (a' := ?_) #[true, true, true, true, true, true, true, true, true, true] rfl rfl (any_of HT_.out (by kernel_rfl)) (fun _ _ _ h => h) (Or.inl ⟨by rfl, ?_⟩) ?_ ?_
         rotate_left
         · intro w'
           go_simp
           with_reducible rfl
         rotate_left
         · simp only [Act.put, List.setIfInBounds_toArray, List.set_cons_zero, List.set_cons_succ, i64_w, i32_w]
           rfl
         refine done_ (done_of HT_.out (by kernel_rfl)) ?_
         go_wp2
         go_roundw
         case rel => exact ⟨x + 1, by go_num, ⟨by omega, by omega⟩, HB3, HC3⟩
         case measure => simp [intOf]; omega
       · go_wp2
         go_meet
         case rel => exact HB.out
    · have q : (e0 == 0) = false := beq_false_i h0
      have hs := prA_bad l0 [] s e0 hse h0
      subst hs
      have hz : (toB ([] : List UInt8)).size = 0 := rfl
      go_wp2
      go_meet
      case rel => exact hB.out
  case rest =>
    clear hse HS hB
    have hB := Lib.hid hcut
    clear hcut
    rcases hrt with ⟨L, hL1, hL2⟩ | ⟨m, hm1, hm2⟩
    · have hrl := rd_len t.data.toList
      have hrm := rd_mem t.data.toList
      rw [hL1, size_len] at hrl hrm
      rw [hL1] at hrs
      simp only at hrs hrl hrm
      have hLl : L.length ≤ 1048576 := by omega
      have hLa : Hid (∀ y ∈ L, y.f1.size ≤ 1048576) := by show ∀ y ∈ L, _; exact fun y hy => Nat.le_trans (hrm y hy) ht
      have HP : Hid (prA [] L = (txt L, 0)) := (prA_all L [] (fun x hx => (hL2 x hx).1)).trans (by rw [List.nil_append])
      have R2 : Hid (rd (toB (txt L)).data.toList = (L, 0, 0)) := by
        show _ = _
        rw [toB_list, rd_txt L (fun x hx => (hL2 x hx).1), map_bare L (fun x hx => (hL2 x hx).2)]
      have hsz : (toB (txt L)).size ≤ 1000000000 := by have := txt_len L; rw [toB_size]; omega
      have R1 := Lib.hid hL1
      obtain ⟨T, hT⟩ : ∃ T, txt L = T := ⟨_, rfl⟩
      rw [hT] at HP R2 hsz
      clear hL1 hL2 hrs hT hrm
      go_wp2_with (first
        | (go_at_call 10; (with_reducible refine (read_as R1.out _ (by omega)).mono ?_); rintro e w2 ⟨A2, c2, rfl, hC2, hc2, hb2⟩; replace hB := Lib.hid (bel_call hB.out hb2); clear hb2; replace hC2 := Lib.hid hC2)
        | (go_at_call 13; (with_reducible refine (print_calls _ _ L T 0 _ (Tb.below HTb.out hB.out) hC2.out hc2 hLl hLa.out HP.out).mono ?_); rintro e w3 ⟨rfl, hb3⟩; replace hB := Lib.hid (bel_call hB.out hb3); replace hC2 := Lib.hid (Kd.C_below hC2.out hb3); clear hb3)
        | (go_at_call 10; (with_reducible refine (read_as R2.out _ hsz).mono ?_); rintro e w4 ⟨A3, c3, rfl, hC3, hc3, hb4⟩; replace hB := Lib.hid (bel_call hB.out hb4); replace hC2 := Lib.hid (Kd.C_below hC2.out hb4); clear hb4; replace hC3 := Lib.hid hC3)
        | (go_at_call 13; (with_reducible refine (print_calls _ _ L T 0 _ (Tb.below HTb.out hB.out) hC3.out hc3 hLl hLa.out HP.out).mono ?_); rintro e w5 ⟨rfl, hb5⟩; replace hB := Lib.hid (bel_call hB.out hb5); replace hC2 := Lib.hid (Kd.C_below hC2.out hb5); replace hC3 := Lib.hid (Kd.C_below hC3.out hb5); clear hb5)
        | (go_at_call 12; (with_reducible refine (same_as L (by omega) _ _ _ _ _ hC2.out hc2 hC3.out hc3).mono ?_); rintro e w6 ⟨rfl, nd, rfl⟩; replace hB := Lib.hid (bel_drewN hB.out nd)))
      go_ret
      exact ⟨rfl, hB.out⟩
    · have R1 := Lib.hid hm2
      have q : (decide (1 ≤ m)) = true := decide_eq_true hm1
      clear hm2 hrs
      go_wp2_with (first
        | (go_at_call 10; (with_reducible refine (read_asn R1.out rfl _ (by omega)).mono ?_); rintro e w2 ⟨A2, c2, rfl, hC2, hc2, hb2⟩; replace hB := Lib.hid (bel_call hB.out hb2); clear hb2))
      go_ret
      exact ⟨rfl, hB.out⟩
end Go.Proofs.YtibgefampokfkaaDoor.Sc
