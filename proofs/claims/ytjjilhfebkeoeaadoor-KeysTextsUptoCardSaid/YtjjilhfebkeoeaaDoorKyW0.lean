/- Bytes: its walks (gen/gen_bytes.py printed them). -/
import Derived.Test.YtjjilhfebkeoeaaDoorKyV
import Derived.Deep.RegionHeld3
import Derived.Test.YtjjilhfebkeoeaaDoorPKyx2
import Derived.Maps.AppendAt
import Derived.Laws.AppendOwn
namespace Go.Proofs.YtjjilhfebkeoeaaDoor.Ky
open Go Go.RowKit Go.Proofs.YtjjilhfebkeoeaaDoor.PKy
open Go.Proofs.YtjjilhfebkeoeaaDoorW.PrintWords (bt rdOf Kd Drawn0 Reps Aside0)
open Go.Proofs.YtjjilhfebkeoeaaDoor.Wk (bcell bel_drew bel_drewN bel_alloc bel_set bel_call size_len mk_data beq_true_i bne_true_i bne_false_i beq_false_i drop_cons var_below blk_alloc blk_below blk_drewN blk_cell blk_frozen blk_far blk_set blk_lt own_slice own_below cells_new)
set_option linter.unusedVariables false
set_option linter.unusedSimpArgs false


set_option maxHeartbeats 2000000 in
set_option maxRecDepth 1000000 in
theorem by_1_false_e (kind char : Int) (ct sh : Bool) (text : List UInt8) (w : World) (HT : Hid (Tb w)) (hlen : (⟨text.toArray⟩ : ByteArray).size ≤ 999999900) (hlen2 : text.length ≤ 999999900) (hk1 : (kind == 1) = true) (hk2 : (kind == 2) = false) (hk4 : (kind == 4) = false) (hk18 : (kind == 18) = false) (hk3 : (kind == 3) = false) (hk17 : (kind == 17) = false) (E : ByteArray) (hE10 : E.size ≤ 10) (HE : Hid (E = ⟨(encL char).toArray⟩)) (hc0 : -2147483648 ≤ char) (hc1 : char ≤ 2147483647) (e1 : E.toList.isEmpty = true) (e2 : (!E.toList.isEmpty) = false) (e3 : E.toList = []) (H : Hid (bytesOf ⟨kind, char, ct, false, sh, text⟩ = ([], false))) :
    Calls Tryd.prog 24 #[keyV ⟨kind, char, ct, false, sh, text⟩] w fun e w' => e = .returned (.tuple #[.string ⟨(bytesOf ⟨kind, char, ct, false, sh, text⟩).1.toArray⟩, .bool (bytesOf ⟨kind, char, ct, false, sh, text⟩).2]) ∧ Below w.heap.size w w' := by
  unfold keyV
  simp only
  go_enter Tryd.func24, Tryd.ntmps24
  go_wp2_with (go_at_call 37; (with_reducible refine (encode_as HE.out hc0 hc1 (w.heap.size + 1) 1 (Nat.le_refl _) _ (one_row w _ char)).mono ?_); rintro e w2 ⟨rfl, hb0⟩; have k6 := K6.below (K6.alloc2 w (.cells #[.int .i32 char] 21) kind char ct false sh text) hb0; have HB := Lib.hid (bel_call (bel_alloc (bel_a w (.cells #[.int .i64 kind, .int .i32 char, .bool ct, .bool false, .bool sh, .string ⟨text.toArray⟩] 50)) (.cells #[.int .i32 char] 21)) hb0); obtain ⟨z0, z1, z2, z3, z4, z5⟩ := k6)
  go_quiet (fail)
  go_wp2
  go_ret2
  exact ⟨ret_by (F := ⟨#[]⟩) H.out, bel_drewN HB.out _⟩
set_option maxHeartbeats 2000000 in
set_option maxRecDepth 1000000 in
theorem by_1_true_t (kind char : Int) (ct sh : Bool) (text : List UInt8) (w : World) (HT : Hid (Tb w)) (hlen : (⟨text.toArray⟩ : ByteArray).size ≤ 999999900) (hlen2 : text.length ≤ 999999900) (hk1 : (kind == 1) = true) (hk2 : (kind == 2) = false) (hk4 : (kind == 4) = false) (hk18 : (kind == 18) = false) (hk3 : (kind == 3) = false) (hk17 : (kind == 17) = false) (E : ByteArray) (hE10 : E.size ≤ 10) (HE : Hid (E = ⟨(encL char).toArray⟩)) (hc0 : -2147483648 ≤ char) (hc1 : char ≤ 2147483647) (F : ByteArray) (hFe : (⟨#[27]⟩ : ByteArray) ++ E = F) (e1 : F.toList.isEmpty = false) (e2 : (!F.toList.isEmpty) = true) (e3 : ¬ F.toList = []) (hF : F.size ≤ 1000000000) (L : List Key) (HL : Hid (keysOf true F.data.toList = L)) (HR : Hid (decide (L = [⟨kind, char, ct, true, sh, text⟩]) = true)) (H : Hid (bytesOf ⟨kind, char, ct, true, sh, text⟩ = (F.data.toList, true))) :
    Calls Tryd.prog 24 #[keyV ⟨kind, char, ct, true, sh, text⟩] w fun e w' => e = .returned (.tuple #[.string ⟨(bytesOf ⟨kind, char, ct, true, sh, text⟩).1.toArray⟩, .bool (bytesOf ⟨kind, char, ct, true, sh, text⟩).2]) ∧ Below w.heap.size w w' := by
  unfold keyV
  simp only
  go_enter Tryd.func24, Tryd.ntmps24
  go_wp2_with (go_at_call 37; (with_reducible refine (encode_as HE.out hc0 hc1 (w.heap.size + 1) 1 (Nat.le_refl _) _ (one_row w _ char)).mono ?_); rintro e w2 ⟨rfl, hb0⟩; have k6 := K6.below (K6.alloc2 w (.cells #[.int .i32 char] 21) kind char ct true sh text) hb0; have HB := Lib.hid (bel_call (bel_alloc (bel_a w (.cells #[.int .i64 kind, .int .i32 char, .bool ct, .bool true, .bool sh, .string ⟨text.toArray⟩] 50)) (.cells #[.int .i32 char] 21)) hb0); obtain ⟨z0, z1, z2, z3, z4, z5⟩ := k6)
  go_region_held3 (fun w' => w'.cell? ⟨w.heap.size, 0, none⟩ = some (.int .i64 kind) ∧ w'.cell? ⟨w.heap.size, 1, none⟩ = some (.int .i32 char) ∧ w'.cell? ⟨w.heap.size, 2, none⟩ = some (.bool ct) ∧ w'.cell? ⟨w.heap.size, 3, none⟩ = some (.bool true) ∧ w'.cell? ⟨w.heap.size, 4, none⟩ = some (.bool sh) ∧ w'.cell? ⟨w.heap.size, 5, none⟩ = some (.string ⟨text.toArray⟩)) (first | exact z6 | exact y6 | go_keep)
    (first
      | (go_at_call 14; (with_reducible refine (decode_all _ hF _ (HT.out.below (bel_drew HB.out))).mono ?_); rintro e wz ⟨v, rfl, ho, hb⟩; rw [HL.out] at ho; obtain ⟨A, c, rfl, hc, hC⟩ := own_C ho; have z6 : K6 _ _ _ _ _ _ _ _ := K6.below ((⟨z0, z1, z2, z3, z4, z5⟩ : K6 w2 w.heap.size kind char ct true sh text)) (W1 := wz) ⟨hb.os, hb.tape, hb.output, hb.size, hb.block⟩)
      | (go_at_call 40; (with_reducible refine (ksame_agg L kind char ct true sh text A c _ hC hc).mono ?_); rintro e wy ⟨rfl, hb2⟩; rw [HR.out]; have y6 := K6.below z6 hb2))
  go_wp2
  go_ret2
  exact ⟨ret_by (F := F) H.out, bel_call (bel_call (bel_drew HB.out) hb) hb2⟩
set_option maxHeartbeats 2000000 in
set_option maxRecDepth 1000000 in
theorem by_2_true_f (kind char : Int) (ct sh : Bool) (text : List UInt8) (w : World) (HT : Hid (Tb w)) (hlen : (⟨text.toArray⟩ : ByteArray).size ≤ 999999900) (hlen2 : text.length ≤ 999999900) (hk1 : (kind == 1) = false) (hk2 : (kind == 2) = true) (hk4 : (kind == 4) = false) (hk18 : (kind == 18) = false) (hk3 : (kind == 3) = false) (hk17 : (kind == 17) = false) (E : ByteArray) (hE10 : E.size ≤ 10) (HE : Hid (E = ⟨(ctl char).toArray⟩)) (F : ByteArray) (hFe : (⟨#[27]⟩ : ByteArray) ++ E = F) (e1 : F.toList.isEmpty = false) (e2 : (!F.toList.isEmpty) = true) (e3 : ¬ F.toList = []) (hF : F.size ≤ 1000000000) (L : List Key) (HL : Hid (keysOf true F.data.toList = L)) (HR : Hid (decide (L = [⟨kind, char, ct, true, sh, text⟩]) = false)) (H : Hid (bytesOf ⟨kind, char, ct, true, sh, text⟩ = ([], false))) :
    Calls Tryd.prog 24 #[keyV ⟨kind, char, ct, true, sh, text⟩] w fun e w' => e = .returned (.tuple #[.string ⟨(bytesOf ⟨kind, char, ct, true, sh, text⟩).1.toArray⟩, .bool (bytesOf ⟨kind, char, ct, true, sh, text⟩).2]) ∧ Below w.heap.size w w' := by
  unfold keyV
  simp only
  go_enter Tryd.func24, Tryd.ntmps24
  go_wp2_with (go_at_call 38; (with_reducible refine (control_as HE.out _).mono ?_); rintro e w2 ⟨rfl, rfl⟩)
  go_region_held3 (fun w' => w'.cell? ⟨w.heap.size, 0, none⟩ = some (.int .i64 kind) ∧ w'.cell? ⟨w.heap.size, 1, none⟩ = some (.int .i32 char) ∧ w'.cell? ⟨w.heap.size, 2, none⟩ = some (.bool ct) ∧ w'.cell? ⟨w.heap.size, 3, none⟩ = some (.bool true) ∧ w'.cell? ⟨w.heap.size, 4, none⟩ = some (.bool sh) ∧ w'.cell? ⟨w.heap.size, 5, none⟩ = some (.string ⟨text.toArray⟩)) (first | exact z6 | exact y6 | go_keep)
    (first
      | (go_at_call 14; (with_reducible refine (decode_all _ hF _ (HT.out.below (bel_drew (bel_a _ _)))).mono ?_); rintro e wz ⟨v, rfl, ho, hb⟩; rw [HL.out] at ho; obtain ⟨A, c, rfl, hc, hC⟩ := own_C ho; have z6 : K6 _ _ _ _ _ _ _ _ := K6.below (K6.alloc w kind char ct true sh text) (W1 := wz) ⟨hb.os, hb.tape, hb.output, hb.size, hb.block⟩)
      | (go_at_call 40; (with_reducible refine (ksame_agg L kind char ct true sh text A c _ hC hc).mono ?_); rintro e wy ⟨rfl, hb2⟩; rw [HR.out]; have y6 := K6.below z6 hb2))
  go_wp2
  go_ret2
  exact ⟨ret_by (F := ⟨#[]⟩) H.out, bel_call (bel_call (bel_drew (bel_a _ _)) hb) hb2⟩
set_option maxHeartbeats 2000000 in
set_option maxRecDepth 1000000 in
theorem by_4_false_t (kind char : Int) (ct sh : Bool) (text : List UInt8) (w : World) (HT : Hid (Tb w)) (hlen : (⟨text.toArray⟩ : ByteArray).size ≤ 999999900) (hlen2 : text.length ≤ 999999900) (hk1 : (kind == 1) = false) (hk2 : (kind == 2) = false) (hk4 : (kind == 4) = true) (hk18 : (kind == 18) = false) (hk3 : (kind == 3) = false) (hk17 : (kind == 17) = false) (e1 : text.isEmpty = false) (e2 : (!text.isEmpty) = true) (e3 : ¬ text = []) (hF : (⟨text.toArray⟩ : ByteArray).size ≤ 1000000000) (L : List Key) (HL : Hid (keysOf true (⟨text.toArray⟩ : ByteArray).data.toList = L)) (HR : Hid (decide (L = [⟨kind, char, ct, false, sh, text⟩]) = true)) (H : Hid (bytesOf ⟨kind, char, ct, false, sh, text⟩ = ((⟨text.toArray⟩ : ByteArray).data.toList, true))) :
    Calls Tryd.prog 24 #[keyV ⟨kind, char, ct, false, sh, text⟩] w fun e w' => e = .returned (.tuple #[.string ⟨(bytesOf ⟨kind, char, ct, false, sh, text⟩).1.toArray⟩, .bool (bytesOf ⟨kind, char, ct, false, sh, text⟩).2]) ∧ Below w.heap.size w w' := by
  unfold keyV
  simp only
  go_enter Tryd.func24, Tryd.ntmps24
  go_wp2
  go_region_held3 (fun w' => w'.cell? ⟨w.heap.size, 0, none⟩ = some (.int .i64 kind) ∧ w'.cell? ⟨w.heap.size, 1, none⟩ = some (.int .i32 char) ∧ w'.cell? ⟨w.heap.size, 2, none⟩ = some (.bool ct) ∧ w'.cell? ⟨w.heap.size, 3, none⟩ = some (.bool false) ∧ w'.cell? ⟨w.heap.size, 4, none⟩ = some (.bool sh) ∧ w'.cell? ⟨w.heap.size, 5, none⟩ = some (.string ⟨text.toArray⟩)) (first | exact z6 | exact y6 | go_keep)
    (first
      | (go_at_call 14; (with_reducible refine (decode_all _ hF _ (HT.out.below (bel_drew (bel_a _ _)))).mono ?_); rintro e wz ⟨v, rfl, ho, hb⟩; rw [HL.out] at ho; obtain ⟨A, c, rfl, hc, hC⟩ := own_C ho; have z6 : K6 _ _ _ _ _ _ _ _ := K6.below (K6.alloc w kind char ct false sh text) (W1 := wz) ⟨hb.os, hb.tape, hb.output, hb.size, hb.block⟩)
      | (go_at_call 40; (with_reducible refine (ksame_agg L kind char ct false sh text A c _ hC hc).mono ?_); rintro e wy ⟨rfl, hb2⟩; rw [HR.out]; have y6 := K6.below z6 hb2))
  go_wp2
  go_ret2
  exact ⟨ret_by (F := (⟨text.toArray⟩ : ByteArray)) H.out, bel_call (bel_call (bel_drew (bel_a _ _)) hb) hb2⟩
set_option maxHeartbeats 2000000 in
set_option maxRecDepth 1000000 in
theorem by_18_false_f (kind char : Int) (ct sh : Bool) (text : List UInt8) (w : World) (HT : Hid (Tb w)) (hlen : (⟨text.toArray⟩ : ByteArray).size ≤ 999999900) (hlen2 : text.length ≤ 999999900) (hk1 : (kind == 1) = false) (hk2 : (kind == 2) = false) (hk4 : (kind == 4) = false) (hk18 : (kind == 18) = true) (hk3 : (kind == 3) = false) (hk17 : (kind == 17) = false) (e1 : text.isEmpty = false) (e2 : (!text.isEmpty) = true) (e3 : ¬ text = []) (hF : (⟨text.toArray⟩ : ByteArray).size ≤ 1000000000) (L : List Key) (HL : Hid (keysOf true (⟨text.toArray⟩ : ByteArray).data.toList = L)) (HR : Hid (decide (L = [⟨kind, char, ct, false, sh, text⟩]) = false)) (H : Hid (bytesOf ⟨kind, char, ct, false, sh, text⟩ = ([], false))) :
    Calls Tryd.prog 24 #[keyV ⟨kind, char, ct, false, sh, text⟩] w fun e w' => e = .returned (.tuple #[.string ⟨(bytesOf ⟨kind, char, ct, false, sh, text⟩).1.toArray⟩, .bool (bytesOf ⟨kind, char, ct, false, sh, text⟩).2]) ∧ Below w.heap.size w w' := by
  unfold keyV
  simp only
  go_enter Tryd.func24, Tryd.ntmps24
  go_wp2
  go_region_held3 (fun w' => w'.cell? ⟨w.heap.size, 0, none⟩ = some (.int .i64 kind) ∧ w'.cell? ⟨w.heap.size, 1, none⟩ = some (.int .i32 char) ∧ w'.cell? ⟨w.heap.size, 2, none⟩ = some (.bool ct) ∧ w'.cell? ⟨w.heap.size, 3, none⟩ = some (.bool false) ∧ w'.cell? ⟨w.heap.size, 4, none⟩ = some (.bool sh) ∧ w'.cell? ⟨w.heap.size, 5, none⟩ = some (.string ⟨text.toArray⟩)) (first | exact z6 | exact y6 | go_keep)
    (first
      | (go_at_call 14; (with_reducible refine (decode_all _ hF _ (HT.out.below (bel_drew (bel_a _ _)))).mono ?_); rintro e wz ⟨v, rfl, ho, hb⟩; rw [HL.out] at ho; obtain ⟨A, c, rfl, hc, hC⟩ := own_C ho; have z6 : K6 _ _ _ _ _ _ _ _ := K6.below (K6.alloc w kind char ct false sh text) (W1 := wz) ⟨hb.os, hb.tape, hb.output, hb.size, hb.block⟩)
      | (go_at_call 40; (with_reducible refine (ksame_agg L kind char ct false sh text A c _ hC hc).mono ?_); rintro e wy ⟨rfl, hb2⟩; rw [HR.out]; have y6 := K6.below z6 hb2))
  go_wp2
  go_ret2
  exact ⟨ret_by (F := ⟨#[]⟩) H.out, bel_call (bel_call (bel_drew (bel_a _ _)) hb) hb2⟩
set_option maxHeartbeats 2000000 in
set_option maxRecDepth 1000000 in
theorem by_18_true_t (kind char : Int) (ct sh : Bool) (text : List UInt8) (w : World) (HT : Hid (Tb w)) (hlen : (⟨text.toArray⟩ : ByteArray).size ≤ 999999900) (hlen2 : text.length ≤ 999999900) (hk1 : (kind == 1) = false) (hk2 : (kind == 2) = false) (hk4 : (kind == 4) = false) (hk18 : (kind == 18) = true) (hk3 : (kind == 3) = false) (hk17 : (kind == 17) = false) (e1 : text.isEmpty = false) (e2 : (!text.isEmpty) = true) (e3 : ¬ text = []) (hF : (⟨text.toArray⟩ : ByteArray).size ≤ 1000000000) (L : List Key) (HL : Hid (keysOf true (⟨text.toArray⟩ : ByteArray).data.toList = L)) (HR : Hid (decide (L = [⟨kind, char, ct, true, sh, text⟩]) = true)) (H : Hid (bytesOf ⟨kind, char, ct, true, sh, text⟩ = ((⟨text.toArray⟩ : ByteArray).data.toList, true))) :
    Calls Tryd.prog 24 #[keyV ⟨kind, char, ct, true, sh, text⟩] w fun e w' => e = .returned (.tuple #[.string ⟨(bytesOf ⟨kind, char, ct, true, sh, text⟩).1.toArray⟩, .bool (bytesOf ⟨kind, char, ct, true, sh, text⟩).2]) ∧ Below w.heap.size w w' := by
  unfold keyV
  simp only
  go_enter Tryd.func24, Tryd.ntmps24
  go_wp2
  go_region_held3 (fun w' => w'.cell? ⟨w.heap.size, 0, none⟩ = some (.int .i64 kind) ∧ w'.cell? ⟨w.heap.size, 1, none⟩ = some (.int .i32 char) ∧ w'.cell? ⟨w.heap.size, 2, none⟩ = some (.bool ct) ∧ w'.cell? ⟨w.heap.size, 3, none⟩ = some (.bool true) ∧ w'.cell? ⟨w.heap.size, 4, none⟩ = some (.bool sh) ∧ w'.cell? ⟨w.heap.size, 5, none⟩ = some (.string ⟨text.toArray⟩)) (first | exact z6 | exact y6 | go_keep)
    (first
      | (go_at_call 14; (with_reducible refine (decode_all _ hF _ (HT.out.below (bel_drew (bel_a _ _)))).mono ?_); rintro e wz ⟨v, rfl, ho, hb⟩; rw [HL.out] at ho; obtain ⟨A, c, rfl, hc, hC⟩ := own_C ho; have z6 : K6 _ _ _ _ _ _ _ _ := K6.below (K6.alloc w kind char ct true sh text) (W1 := wz) ⟨hb.os, hb.tape, hb.output, hb.size, hb.block⟩)
      | (go_at_call 40; (with_reducible refine (ksame_agg L kind char ct true sh text A c _ hC hc).mono ?_); rintro e wy ⟨rfl, hb2⟩; rw [HR.out]; have y6 := K6.below z6 hb2))
  go_wp2
  go_ret2
  exact ⟨ret_by (F := (⟨text.toArray⟩ : ByteArray)) H.out, bel_call (bel_call (bel_drew (bel_a _ _)) hb) hb2⟩
set_option maxHeartbeats 2000000 in
set_option maxRecDepth 1000000 in
theorem by_3_true_t (kind char : Int) (ct sh : Bool) (text : List UInt8) (w : World) (HT : Hid (Tb w)) (hlen : (⟨text.toArray⟩ : ByteArray).size ≤ 999999900) (hlen2 : text.length ≤ 999999900) (hk1 : (kind == 1) = false) (hk2 : (kind == 2) = false) (hk4 : (kind == 4) = false) (hk18 : (kind == 18) = false) (hk3 : (kind == 3) = true) (hk17 : (kind == 17) = false) (hF : (⟨#[27]⟩ : ByteArray).size ≤ 1000000000) (L : List Key) (HL : Hid (keysOf true (⟨#[27]⟩ : ByteArray).data.toList = L)) (HR : Hid (decide (L = [⟨kind, char, ct, true, sh, text⟩]) = true)) (H : Hid (bytesOf ⟨kind, char, ct, true, sh, text⟩ = ((⟨#[27]⟩ : ByteArray).data.toList, true))) :
    Calls Tryd.prog 24 #[keyV ⟨kind, char, ct, true, sh, text⟩] w fun e w' => e = .returned (.tuple #[.string ⟨(bytesOf ⟨kind, char, ct, true, sh, text⟩).1.toArray⟩, .bool (bytesOf ⟨kind, char, ct, true, sh, text⟩).2]) ∧ Below w.heap.size w w' := by
  unfold keyV
  simp only
  go_enter Tryd.func24, Tryd.ntmps24
  go_wp2
  go_region_held3 (fun w' => w'.cell? ⟨w.heap.size, 0, none⟩ = some (.int .i64 kind) ∧ w'.cell? ⟨w.heap.size, 1, none⟩ = some (.int .i32 char) ∧ w'.cell? ⟨w.heap.size, 2, none⟩ = some (.bool ct) ∧ w'.cell? ⟨w.heap.size, 3, none⟩ = some (.bool true) ∧ w'.cell? ⟨w.heap.size, 4, none⟩ = some (.bool sh) ∧ w'.cell? ⟨w.heap.size, 5, none⟩ = some (.string ⟨text.toArray⟩)) (first | exact z6 | exact y6 | go_keep)
    (first
      | (go_at_call 14; (with_reducible refine (decode_all _ hF _ (HT.out.below (bel_drew (bel_a _ _)))).mono ?_); rintro e wz ⟨v, rfl, ho, hb⟩; rw [HL.out] at ho; obtain ⟨A, c, rfl, hc, hC⟩ := own_C ho; have z6 : K6 _ _ _ _ _ _ _ _ := K6.below (K6.alloc w kind char ct true sh text) (W1 := wz) ⟨hb.os, hb.tape, hb.output, hb.size, hb.block⟩)
      | (go_at_call 40; (with_reducible refine (ksame_agg L kind char ct true sh text A c _ hC hc).mono ?_); rintro e wy ⟨rfl, hb2⟩; rw [HR.out]; have y6 := K6.below z6 hb2))
  go_wp2
  go_ret2
  exact ⟨ret_by (F := (⟨#[27]⟩ : ByteArray)) H.out, bel_call (bel_call (bel_drew (bel_a _ _)) hb) hb2⟩
set_option maxHeartbeats 2000000 in
set_option maxRecDepth 1000000 in
theorem by_17_true_t (kind char : Int) (ct sh : Bool) (text : List UInt8) (w : World) (HT : Hid (Tb w)) (hlen : (⟨text.toArray⟩ : ByteArray).size ≤ 999999900) (hlen2 : text.length ≤ 999999900) (hk1 : (kind == 1) = false) (hk2 : (kind == 2) = false) (hk4 : (kind == 4) = false) (hk18 : (kind == 18) = false) (hk3 : (kind == 3) = false) (hk17 : (kind == 17) = true) (F : ByteArray) (hFe : (⟨#[27, 91, 50, 48, 48, 126]⟩ : ByteArray) ++ (⟨text.toArray⟩ : ByteArray) ++ (⟨#[27, 91, 50, 48, 49, 126]⟩ : ByteArray) = F) (e1 : F.toList.isEmpty = false) (e2 : (!F.toList.isEmpty) = true) (e3 : ¬ F.toList = []) (hF : F.size ≤ 1000000000) (L : List Key) (HL : Hid (keysOf true F.data.toList = L)) (HR : Hid (decide (L = [⟨kind, char, ct, true, sh, text⟩]) = true)) (H : Hid (bytesOf ⟨kind, char, ct, true, sh, text⟩ = (F.data.toList, true))) :
    Calls Tryd.prog 24 #[keyV ⟨kind, char, ct, true, sh, text⟩] w fun e w' => e = .returned (.tuple #[.string ⟨(bytesOf ⟨kind, char, ct, true, sh, text⟩).1.toArray⟩, .bool (bytesOf ⟨kind, char, ct, true, sh, text⟩).2]) ∧ Below w.heap.size w w' := by
  unfold keyV
  simp only
  go_enter Tryd.func24, Tryd.ntmps24
  go_wp2
  go_region_held3 (fun w' => w'.cell? ⟨w.heap.size, 0, none⟩ = some (.int .i64 kind) ∧ w'.cell? ⟨w.heap.size, 1, none⟩ = some (.int .i32 char) ∧ w'.cell? ⟨w.heap.size, 2, none⟩ = some (.bool ct) ∧ w'.cell? ⟨w.heap.size, 3, none⟩ = some (.bool true) ∧ w'.cell? ⟨w.heap.size, 4, none⟩ = some (.bool sh) ∧ w'.cell? ⟨w.heap.size, 5, none⟩ = some (.string ⟨text.toArray⟩)) (first | exact z6 | exact y6 | go_keep)
    (first
      | (go_at_call 14; (with_reducible refine (decode_all _ hF _ (HT.out.below (bel_drew (bel_a _ _)))).mono ?_); rintro e wz ⟨v, rfl, ho, hb⟩; rw [HL.out] at ho; obtain ⟨A, c, rfl, hc, hC⟩ := own_C ho; have z6 : K6 _ _ _ _ _ _ _ _ := K6.below (K6.alloc w kind char ct true sh text) (W1 := wz) ⟨hb.os, hb.tape, hb.output, hb.size, hb.block⟩)
      | (go_at_call 40; (with_reducible refine (ksame_agg L kind char ct true sh text A c _ hC hc).mono ?_); rintro e wy ⟨rfl, hb2⟩; rw [HR.out]; have y6 := K6.below z6 hb2))
  go_wp2
  go_ret2
  exact ⟨ret_by (F := F) H.out, bel_call (bel_call (bel_drew (bel_a _ _)) hb) hb2⟩
set_option maxHeartbeats 2000000 in
set_option maxRecDepth 1000000 in
theorem by_0_true_e (kind char : Int) (ct sh : Bool) (text : List UInt8) (w : World) (HT : Hid (Tb w)) (hlen : (⟨text.toArray⟩ : ByteArray).size ≤ 999999900) (hlen2 : text.length ≤ 999999900) (hk1 : (kind == 1) = false) (hk2 : (kind == 2) = false) (hk4 : (kind == 4) = false) (hk18 : (kind == 18) = false) (hk3 : (kind == 3) = false) (hk17 : (kind == 17) = false) (E : ByteArray) (hE10 : E.size ≤ 100) (HE : Hid (E = ⟨(seqL ⟨kind, char, ct, true, sh, text⟩).toArray⟩)) (e1 : E.toList.isEmpty = true) (e2 : (!E.toList.isEmpty) = false) (e3 : E.toList = []) (H : Hid (bytesOf ⟨kind, char, ct, true, sh, text⟩ = ([], false))) :
    Calls Tryd.prog 24 #[keyV ⟨kind, char, ct, true, sh, text⟩] w fun e w' => e = .returned (.tuple #[.string ⟨(bytesOf ⟨kind, char, ct, true, sh, text⟩).1.toArray⟩, .bool (bytesOf ⟨kind, char, ct, true, sh, text⟩).2]) ∧ Below w.heap.size w w' := by
  unfold keyV
  simp only
  go_enter Tryd.func24, Tryd.ntmps24
  go_wp2_with (go_at_call 39; (with_reducible refine (sequence_as kind char ct true sh text HE.out _).mono ?_); rintro e w2 ⟨rfl, hb0⟩; have k6 := K6.below (K6.alloc w kind char ct true sh text) hb0; have HB := Lib.hid (bel_ca hb0); obtain ⟨z0, z1, z2, z3, z4, z5⟩ := k6)
  go_quiet (fail)
  go_wp2
  go_ret2
  exact ⟨ret_by (F := ⟨#[]⟩) H.out, bel_drewN HB.out _⟩
end Go.Proofs.YtjjilhfebkeoeaaDoor.Ky
/- Bytes: its walks (gen/gen_bytes.py printed them). -/
namespace Go.Proofs.YtjjilhfebkeoeaaDoor.Ky
open Go Go.RowKit Go.Proofs.YtjjilhfebkeoeaaDoor.PKy
open Go.Proofs.YtjjilhfebkeoeaaDoorW.PrintWords (bt rdOf Kd Drawn0 Reps Aside0)
open Go.Proofs.YtjjilhfebkeoeaaDoor.Wk (bcell bel_drew bel_drewN bel_alloc bel_set bel_call size_len mk_data beq_true_i bne_true_i bne_false_i beq_false_i drop_cons var_below blk_alloc blk_below blk_drewN blk_cell blk_frozen blk_far blk_set blk_lt own_slice own_below cells_new)
set_option linter.unusedVariables false
set_option linter.unusedSimpArgs false


set_option maxHeartbeats 2000000 in
set_option maxRecDepth 1000000 in
theorem by_1_false_f (kind char : Int) (ct sh : Bool) (text : List UInt8) (w : World) (HT : Hid (Tb w)) (hlen : (⟨text.toArray⟩ : ByteArray).size ≤ 999999900) (hlen2 : text.length ≤ 999999900) (hk1 : (kind == 1) = true) (hk2 : (kind == 2) = false) (hk4 : (kind == 4) = false) (hk18 : (kind == 18) = false) (hk3 : (kind == 3) = false) (hk17 : (kind == 17) = false) (E : ByteArray) (hE10 : E.size ≤ 10) (HE : Hid (E = ⟨(encL char).toArray⟩)) (hc0 : -2147483648 ≤ char) (hc1 : char ≤ 2147483647) (e1 : E.toList.isEmpty = false) (e2 : (!E.toList.isEmpty) = true) (e3 : ¬ E.toList = []) (hF : E.size ≤ 1000000000) (L : List Key) (HL : Hid (keysOf true E.data.toList = L)) (HR : Hid (decide (L = [⟨kind, char, ct, false, sh, text⟩]) = false)) (H : Hid (bytesOf ⟨kind, char, ct, false, sh, text⟩ = ([], false))) :
    Calls Tryd.prog 24 #[keyV ⟨kind, char, ct, false, sh, text⟩] w fun e w' => e = .returned (.tuple #[.string ⟨(bytesOf ⟨kind, char, ct, false, sh, text⟩).1.toArray⟩, .bool (bytesOf ⟨kind, char, ct, false, sh, text⟩).2]) ∧ Below w.heap.size w w' := by
  unfold keyV
  simp only
  go_enter Tryd.func24, Tryd.ntmps24
  go_wp2_with (go_at_call 37; (with_reducible refine (encode_as HE.out hc0 hc1 (w.heap.size + 1) 1 (Nat.le_refl _) _ (one_row w _ char)).mono ?_); rintro e w2 ⟨rfl, hb0⟩; have k6 := K6.below (K6.alloc2 w (.cells #[.int .i32 char] 21) kind char ct false sh text) hb0; have HB := Lib.hid (bel_call (bel_alloc (bel_a w (.cells #[.int .i64 kind, .int .i32 char, .bool ct, .bool false, .bool sh, .string ⟨text.toArray⟩] 50)) (.cells #[.int .i32 char] 21)) hb0); obtain ⟨z0, z1, z2, z3, z4, z5⟩ := k6)
  go_region_held3 (fun w' => w'.cell? ⟨w.heap.size, 0, none⟩ = some (.int .i64 kind) ∧ w'.cell? ⟨w.heap.size, 1, none⟩ = some (.int .i32 char) ∧ w'.cell? ⟨w.heap.size, 2, none⟩ = some (.bool ct) ∧ w'.cell? ⟨w.heap.size, 3, none⟩ = some (.bool false) ∧ w'.cell? ⟨w.heap.size, 4, none⟩ = some (.bool sh) ∧ w'.cell? ⟨w.heap.size, 5, none⟩ = some (.string ⟨text.toArray⟩)) (first | exact z6 | exact y6 | go_keep)
    (first
      | (go_at_call 14; (with_reducible refine (decode_all _ hF _ (HT.out.below (bel_drew HB.out))).mono ?_); rintro e wz ⟨v, rfl, ho, hb⟩; rw [HL.out] at ho; obtain ⟨A, c, rfl, hc, hC⟩ := own_C ho; have z6 : K6 _ _ _ _ _ _ _ _ := K6.below ((⟨z0, z1, z2, z3, z4, z5⟩ : K6 w2 w.heap.size kind char ct false sh text)) (W1 := wz) ⟨hb.os, hb.tape, hb.output, hb.size, hb.block⟩)
      | (go_at_call 40; (with_reducible refine (ksame_agg L kind char ct false sh text A c _ hC hc).mono ?_); rintro e wy ⟨rfl, hb2⟩; rw [HR.out]; have y6 := K6.below z6 hb2))
  go_wp2
  go_ret2
  exact ⟨ret_by (F := ⟨#[]⟩) H.out, bel_call (bel_call (bel_drew HB.out) hb) hb2⟩
set_option maxHeartbeats 2000000 in
set_option maxRecDepth 1000000 in
theorem by_2_false_e (kind char : Int) (ct sh : Bool) (text : List UInt8) (w : World) (HT : Hid (Tb w)) (hlen : (⟨text.toArray⟩ : ByteArray).size ≤ 999999900) (hlen2 : text.length ≤ 999999900) (hk1 : (kind == 1) = false) (hk2 : (kind == 2) = true) (hk4 : (kind == 4) = false) (hk18 : (kind == 18) = false) (hk3 : (kind == 3) = false) (hk17 : (kind == 17) = false) (E : ByteArray) (hE10 : E.size ≤ 10) (HE : Hid (E = ⟨(ctl char).toArray⟩)) (e1 : E.toList.isEmpty = true) (e2 : (!E.toList.isEmpty) = false) (e3 : E.toList = []) (H : Hid (bytesOf ⟨kind, char, ct, false, sh, text⟩ = ([], false))) :
    Calls Tryd.prog 24 #[keyV ⟨kind, char, ct, false, sh, text⟩] w fun e w' => e = .returned (.tuple #[.string ⟨(bytesOf ⟨kind, char, ct, false, sh, text⟩).1.toArray⟩, .bool (bytesOf ⟨kind, char, ct, false, sh, text⟩).2]) ∧ Below w.heap.size w w' := by
  unfold keyV
  simp only
  go_enter Tryd.func24, Tryd.ntmps24
  go_wp2_with (go_at_call 38; (with_reducible refine (control_as HE.out _).mono ?_); rintro e w2 ⟨rfl, rfl⟩)
  go_quiet (fail)
  go_wp2
  go_ret2
  exact ⟨ret_by (F := ⟨#[]⟩) H.out, bel_drewN (bel_a _ _) _⟩
set_option maxHeartbeats 2000000 in
set_option maxRecDepth 1000000 in
theorem by_2_true_t (kind char : Int) (ct sh : Bool) (text : List UInt8) (w : World) (HT : Hid (Tb w)) (hlen : (⟨text.toArray⟩ : ByteArray).size ≤ 999999900) (hlen2 : text.length ≤ 999999900) (hk1 : (kind == 1) = false) (hk2 : (kind == 2) = true) (hk4 : (kind == 4) = false) (hk18 : (kind == 18) = false) (hk3 : (kind == 3) = false) (hk17 : (kind == 17) = false) (E : ByteArray) (hE10 : E.size ≤ 10) (HE : Hid (E = ⟨(ctl char).toArray⟩)) (F : ByteArray) (hFe : (⟨#[27]⟩ : ByteArray) ++ E = F) (e1 : F.toList.isEmpty = false) (e2 : (!F.toList.isEmpty) = true) (e3 : ¬ F.toList = []) (hF : F.size ≤ 1000000000) (L : List Key) (HL : Hid (keysOf true F.data.toList = L)) (HR : Hid (decide (L = [⟨kind, char, ct, true, sh, text⟩]) = true)) (H : Hid (bytesOf ⟨kind, char, ct, true, sh, text⟩ = (F.data.toList, true))) :
    Calls Tryd.prog 24 #[keyV ⟨kind, char, ct, true, sh, text⟩] w fun e w' => e = .returned (.tuple #[.string ⟨(bytesOf ⟨kind, char, ct, true, sh, text⟩).1.toArray⟩, .bool (bytesOf ⟨kind, char, ct, true, sh, text⟩).2]) ∧ Below w.heap.size w w' := by
  unfold keyV
  simp only
  go_enter Tryd.func24, Tryd.ntmps24
  go_wp2_with (go_at_call 38; (with_reducible refine (control_as HE.out _).mono ?_); rintro e w2 ⟨rfl, rfl⟩)
  go_region_held3 (fun w' => w'.cell? ⟨w.heap.size, 0, none⟩ = some (.int .i64 kind) ∧ w'.cell? ⟨w.heap.size, 1, none⟩ = some (.int .i32 char) ∧ w'.cell? ⟨w.heap.size, 2, none⟩ = some (.bool ct) ∧ w'.cell? ⟨w.heap.size, 3, none⟩ = some (.bool true) ∧ w'.cell? ⟨w.heap.size, 4, none⟩ = some (.bool sh) ∧ w'.cell? ⟨w.heap.size, 5, none⟩ = some (.string ⟨text.toArray⟩)) (first | exact z6 | exact y6 | go_keep)
    (first
      | (go_at_call 14; (with_reducible refine (decode_all _ hF _ (HT.out.below (bel_drew (bel_a _ _)))).mono ?_); rintro e wz ⟨v, rfl, ho, hb⟩; rw [HL.out] at ho; obtain ⟨A, c, rfl, hc, hC⟩ := own_C ho; have z6 : K6 _ _ _ _ _ _ _ _ := K6.below (K6.alloc w kind char ct true sh text) (W1 := wz) ⟨hb.os, hb.tape, hb.output, hb.size, hb.block⟩)
      | (go_at_call 40; (with_reducible refine (ksame_agg L kind char ct true sh text A c _ hC hc).mono ?_); rintro e wy ⟨rfl, hb2⟩; rw [HR.out]; have y6 := K6.below z6 hb2))
  go_wp2
  go_ret2
  exact ⟨ret_by (F := F) H.out, bel_call (bel_call (bel_drew (bel_a _ _)) hb) hb2⟩
set_option maxHeartbeats 2000000 in
set_option maxRecDepth 1000000 in
theorem by_4_true_f (kind char : Int) (ct sh : Bool) (text : List UInt8) (w : World) (HT : Hid (Tb w)) (hlen : (⟨text.toArray⟩ : ByteArray).size ≤ 999999900) (hlen2 : text.length ≤ 999999900) (hk1 : (kind == 1) = false) (hk2 : (kind == 2) = false) (hk4 : (kind == 4) = true) (hk18 : (kind == 18) = false) (hk3 : (kind == 3) = false) (hk17 : (kind == 17) = false) (F : ByteArray) (hFe : (⟨#[27]⟩ : ByteArray) ++ (⟨text.toArray⟩ : ByteArray) = F) (e1 : F.toList.isEmpty = false) (e2 : (!F.toList.isEmpty) = true) (e3 : ¬ F.toList = []) (hF : F.size ≤ 1000000000) (L : List Key) (HL : Hid (keysOf true F.data.toList = L)) (HR : Hid (decide (L = [⟨kind, char, ct, true, sh, text⟩]) = false)) (H : Hid (bytesOf ⟨kind, char, ct, true, sh, text⟩ = ([], false))) :
    Calls Tryd.prog 24 #[keyV ⟨kind, char, ct, true, sh, text⟩] w fun e w' => e = .returned (.tuple #[.string ⟨(bytesOf ⟨kind, char, ct, true, sh, text⟩).1.toArray⟩, .bool (bytesOf ⟨kind, char, ct, true, sh, text⟩).2]) ∧ Below w.heap.size w w' := by
  unfold keyV
  simp only
  go_enter Tryd.func24, Tryd.ntmps24
  go_wp2
  go_region_held3 (fun w' => w'.cell? ⟨w.heap.size, 0, none⟩ = some (.int .i64 kind) ∧ w'.cell? ⟨w.heap.size, 1, none⟩ = some (.int .i32 char) ∧ w'.cell? ⟨w.heap.size, 2, none⟩ = some (.bool ct) ∧ w'.cell? ⟨w.heap.size, 3, none⟩ = some (.bool true) ∧ w'.cell? ⟨w.heap.size, 4, none⟩ = some (.bool sh) ∧ w'.cell? ⟨w.heap.size, 5, none⟩ = some (.string ⟨text.toArray⟩)) (first | exact z6 | exact y6 | go_keep)
    (first
      | (go_at_call 14; (with_reducible refine (decode_all _ hF _ (HT.out.below (bel_drew (bel_a _ _)))).mono ?_); rintro e wz ⟨v, rfl, ho, hb⟩; rw [HL.out] at ho; obtain ⟨A, c, rfl, hc, hC⟩ := own_C ho; have z6 : K6 _ _ _ _ _ _ _ _ := K6.below (K6.alloc w kind char ct true sh text) (W1 := wz) ⟨hb.os, hb.tape, hb.output, hb.size, hb.block⟩)
      | (go_at_call 40; (with_reducible refine (ksame_agg L kind char ct true sh text A c _ hC hc).mono ?_); rintro e wy ⟨rfl, hb2⟩; rw [HR.out]; have y6 := K6.below z6 hb2))
  go_wp2
  go_ret2
  exact ⟨ret_by (F := ⟨#[]⟩) H.out, bel_call (bel_call (bel_drew (bel_a _ _)) hb) hb2⟩
set_option maxHeartbeats 2000000 in
set_option maxRecDepth 1000000 in
theorem by_18_false_t (kind char : Int) (ct sh : Bool) (text : List UInt8) (w : World) (HT : Hid (Tb w)) (hlen : (⟨text.toArray⟩ : ByteArray).size ≤ 999999900) (hlen2 : text.length ≤ 999999900) (hk1 : (kind == 1) = false) (hk2 : (kind == 2) = false) (hk4 : (kind == 4) = false) (hk18 : (kind == 18) = true) (hk3 : (kind == 3) = false) (hk17 : (kind == 17) = false) (e1 : text.isEmpty = false) (e2 : (!text.isEmpty) = true) (e3 : ¬ text = []) (hF : (⟨text.toArray⟩ : ByteArray).size ≤ 1000000000) (L : List Key) (HL : Hid (keysOf true (⟨text.toArray⟩ : ByteArray).data.toList = L)) (HR : Hid (decide (L = [⟨kind, char, ct, false, sh, text⟩]) = true)) (H : Hid (bytesOf ⟨kind, char, ct, false, sh, text⟩ = ((⟨text.toArray⟩ : ByteArray).data.toList, true))) :
    Calls Tryd.prog 24 #[keyV ⟨kind, char, ct, false, sh, text⟩] w fun e w' => e = .returned (.tuple #[.string ⟨(bytesOf ⟨kind, char, ct, false, sh, text⟩).1.toArray⟩, .bool (bytesOf ⟨kind, char, ct, false, sh, text⟩).2]) ∧ Below w.heap.size w w' := by
  unfold keyV
  simp only
  go_enter Tryd.func24, Tryd.ntmps24
  go_wp2
  go_region_held3 (fun w' => w'.cell? ⟨w.heap.size, 0, none⟩ = some (.int .i64 kind) ∧ w'.cell? ⟨w.heap.size, 1, none⟩ = some (.int .i32 char) ∧ w'.cell? ⟨w.heap.size, 2, none⟩ = some (.bool ct) ∧ w'.cell? ⟨w.heap.size, 3, none⟩ = some (.bool false) ∧ w'.cell? ⟨w.heap.size, 4, none⟩ = some (.bool sh) ∧ w'.cell? ⟨w.heap.size, 5, none⟩ = some (.string ⟨text.toArray⟩)) (first | exact z6 | exact y6 | go_keep)
    (first
      | (go_at_call 14; (with_reducible refine (decode_all _ hF _ (HT.out.below (bel_drew (bel_a _ _)))).mono ?_); rintro e wz ⟨v, rfl, ho, hb⟩; rw [HL.out] at ho; obtain ⟨A, c, rfl, hc, hC⟩ := own_C ho; have z6 : K6 _ _ _ _ _ _ _ _ := K6.below (K6.alloc w kind char ct false sh text) (W1 := wz) ⟨hb.os, hb.tape, hb.output, hb.size, hb.block⟩)
      | (go_at_call 40; (with_reducible refine (ksame_agg L kind char ct false sh text A c _ hC hc).mono ?_); rintro e wy ⟨rfl, hb2⟩; rw [HR.out]; have y6 := K6.below z6 hb2))
  go_wp2
  go_ret2
  exact ⟨ret_by (F := (⟨text.toArray⟩ : ByteArray)) H.out, bel_call (bel_call (bel_drew (bel_a _ _)) hb) hb2⟩
set_option maxHeartbeats 2000000 in
set_option maxRecDepth 1000000 in
theorem by_3_false_f (kind char : Int) (ct sh : Bool) (text : List UInt8) (w : World) (HT : Hid (Tb w)) (hlen : (⟨text.toArray⟩ : ByteArray).size ≤ 999999900) (hlen2 : text.length ≤ 999999900) (hk1 : (kind == 1) = false) (hk2 : (kind == 2) = false) (hk4 : (kind == 4) = false) (hk18 : (kind == 18) = false) (hk3 : (kind == 3) = true) (hk17 : (kind == 17) = false) (hF : (⟨#[27]⟩ : ByteArray).size ≤ 1000000000) (L : List Key) (HL : Hid (keysOf true (⟨#[27]⟩ : ByteArray).data.toList = L)) (HR : Hid (decide (L = [⟨kind, char, ct, false, sh, text⟩]) = false)) (H : Hid (bytesOf ⟨kind, char, ct, false, sh, text⟩ = ([], false))) :
    Calls Tryd.prog 24 #[keyV ⟨kind, char, ct, false, sh, text⟩] w fun e w' => e = .returned (.tuple #[.string ⟨(bytesOf ⟨kind, char, ct, false, sh, text⟩).1.toArray⟩, .bool (bytesOf ⟨kind, char, ct, false, sh, text⟩).2]) ∧ Below w.heap.size w w' := by
  unfold keyV
  simp only
  go_enter Tryd.func24, Tryd.ntmps24
  go_wp2
  go_region_held3 (fun w' => w'.cell? ⟨w.heap.size, 0, none⟩ = some (.int .i64 kind) ∧ w'.cell? ⟨w.heap.size, 1, none⟩ = some (.int .i32 char) ∧ w'.cell? ⟨w.heap.size, 2, none⟩ = some (.bool ct) ∧ w'.cell? ⟨w.heap.size, 3, none⟩ = some (.bool false) ∧ w'.cell? ⟨w.heap.size, 4, none⟩ = some (.bool sh) ∧ w'.cell? ⟨w.heap.size, 5, none⟩ = some (.string ⟨text.toArray⟩)) (first | exact z6 | exact y6 | go_keep)
    (first
      | (go_at_call 14; (with_reducible refine (decode_all _ hF _ (HT.out.below (bel_drew (bel_a _ _)))).mono ?_); rintro e wz ⟨v, rfl, ho, hb⟩; rw [HL.out] at ho; obtain ⟨A, c, rfl, hc, hC⟩ := own_C ho; have z6 : K6 _ _ _ _ _ _ _ _ := K6.below (K6.alloc w kind char ct false sh text) (W1 := wz) ⟨hb.os, hb.tape, hb.output, hb.size, hb.block⟩)
      | (go_at_call 40; (with_reducible refine (ksame_agg L kind char ct false sh text A c _ hC hc).mono ?_); rintro e wy ⟨rfl, hb2⟩; rw [HR.out]; have y6 := K6.below z6 hb2))
  go_wp2
  go_ret2
  exact ⟨ret_by (F := ⟨#[]⟩) H.out, bel_call (bel_call (bel_drew (bel_a _ _)) hb) hb2⟩
set_option maxHeartbeats 2000000 in
set_option maxRecDepth 1000000 in
theorem by_17_false_f (kind char : Int) (ct sh : Bool) (text : List UInt8) (w : World) (HT : Hid (Tb w)) (hlen : (⟨text.toArray⟩ : ByteArray).size ≤ 999999900) (hlen2 : text.length ≤ 999999900) (hk1 : (kind == 1) = false) (hk2 : (kind == 2) = false) (hk4 : (kind == 4) = false) (hk18 : (kind == 18) = false) (hk3 : (kind == 3) = false) (hk17 : (kind == 17) = true) (F : ByteArray) (hFe : (⟨#[27, 91, 50, 48, 48, 126]⟩ : ByteArray) ++ (⟨text.toArray⟩ : ByteArray) ++ (⟨#[27, 91, 50, 48, 49, 126]⟩ : ByteArray) = F) (e1 : F.toList.isEmpty = false) (e2 : (!F.toList.isEmpty) = true) (e3 : ¬ F.toList = []) (hF : F.size ≤ 1000000000) (L : List Key) (HL : Hid (keysOf true F.data.toList = L)) (HR : Hid (decide (L = [⟨kind, char, ct, false, sh, text⟩]) = false)) (H : Hid (bytesOf ⟨kind, char, ct, false, sh, text⟩ = ([], false))) :
    Calls Tryd.prog 24 #[keyV ⟨kind, char, ct, false, sh, text⟩] w fun e w' => e = .returned (.tuple #[.string ⟨(bytesOf ⟨kind, char, ct, false, sh, text⟩).1.toArray⟩, .bool (bytesOf ⟨kind, char, ct, false, sh, text⟩).2]) ∧ Below w.heap.size w w' := by
  unfold keyV
  simp only
  go_enter Tryd.func24, Tryd.ntmps24
  go_wp2
  go_region_held3 (fun w' => w'.cell? ⟨w.heap.size, 0, none⟩ = some (.int .i64 kind) ∧ w'.cell? ⟨w.heap.size, 1, none⟩ = some (.int .i32 char) ∧ w'.cell? ⟨w.heap.size, 2, none⟩ = some (.bool ct) ∧ w'.cell? ⟨w.heap.size, 3, none⟩ = some (.bool false) ∧ w'.cell? ⟨w.heap.size, 4, none⟩ = some (.bool sh) ∧ w'.cell? ⟨w.heap.size, 5, none⟩ = some (.string ⟨text.toArray⟩)) (first | exact z6 | exact y6 | go_keep)
    (first
      | (go_at_call 14; (with_reducible refine (decode_all _ hF _ (HT.out.below (bel_drew (bel_a _ _)))).mono ?_); rintro e wz ⟨v, rfl, ho, hb⟩; rw [HL.out] at ho; obtain ⟨A, c, rfl, hc, hC⟩ := own_C ho; have z6 : K6 _ _ _ _ _ _ _ _ := K6.below (K6.alloc w kind char ct false sh text) (W1 := wz) ⟨hb.os, hb.tape, hb.output, hb.size, hb.block⟩)
      | (go_at_call 40; (with_reducible refine (ksame_agg L kind char ct false sh text A c _ hC hc).mono ?_); rintro e wy ⟨rfl, hb2⟩; rw [HR.out]; have y6 := K6.below z6 hb2))
  go_wp2
  go_ret2
  exact ⟨ret_by (F := ⟨#[]⟩) H.out, bel_call (bel_call (bel_drew (bel_a _ _)) hb) hb2⟩
set_option maxHeartbeats 2000000 in
set_option maxRecDepth 1000000 in
theorem by_0_false_e (kind char : Int) (ct sh : Bool) (text : List UInt8) (w : World) (HT : Hid (Tb w)) (hlen : (⟨text.toArray⟩ : ByteArray).size ≤ 999999900) (hlen2 : text.length ≤ 999999900) (hk1 : (kind == 1) = false) (hk2 : (kind == 2) = false) (hk4 : (kind == 4) = false) (hk18 : (kind == 18) = false) (hk3 : (kind == 3) = false) (hk17 : (kind == 17) = false) (E : ByteArray) (hE10 : E.size ≤ 100) (HE : Hid (E = ⟨(seqL ⟨kind, char, ct, false, sh, text⟩).toArray⟩)) (e1 : E.toList.isEmpty = true) (e2 : (!E.toList.isEmpty) = false) (e3 : E.toList = []) (H : Hid (bytesOf ⟨kind, char, ct, false, sh, text⟩ = ([], false))) :
    Calls Tryd.prog 24 #[keyV ⟨kind, char, ct, false, sh, text⟩] w fun e w' => e = .returned (.tuple #[.string ⟨(bytesOf ⟨kind, char, ct, false, sh, text⟩).1.toArray⟩, .bool (bytesOf ⟨kind, char, ct, false, sh, text⟩).2]) ∧ Below w.heap.size w w' := by
  unfold keyV
  simp only
  go_enter Tryd.func24, Tryd.ntmps24
  go_wp2_with (go_at_call 39; (with_reducible refine (sequence_as kind char ct false sh text HE.out _).mono ?_); rintro e w2 ⟨rfl, hb0⟩; have k6 := K6.below (K6.alloc w kind char ct false sh text) hb0; have HB := Lib.hid (bel_ca hb0); obtain ⟨z0, z1, z2, z3, z4, z5⟩ := k6)
  go_quiet (fail)
  go_wp2
  go_ret2
  exact ⟨ret_by (F := ⟨#[]⟩) H.out, bel_drewN HB.out _⟩
set_option maxHeartbeats 2000000 in
set_option maxRecDepth 1000000 in
theorem by_0_true_f (kind char : Int) (ct sh : Bool) (text : List UInt8) (w : World) (HT : Hid (Tb w)) (hlen : (⟨text.toArray⟩ : ByteArray).size ≤ 999999900) (hlen2 : text.length ≤ 999999900) (hk1 : (kind == 1) = false) (hk2 : (kind == 2) = false) (hk4 : (kind == 4) = false) (hk18 : (kind == 18) = false) (hk3 : (kind == 3) = false) (hk17 : (kind == 17) = false) (E : ByteArray) (hE10 : E.size ≤ 100) (HE : Hid (E = ⟨(seqL ⟨kind, char, ct, true, sh, text⟩).toArray⟩)) (e1 : E.toList.isEmpty = false) (e2 : (!E.toList.isEmpty) = true) (e3 : ¬ E.toList = []) (hF : E.size ≤ 1000000000) (L : List Key) (HL : Hid (keysOf true E.data.toList = L)) (HR : Hid (decide (L = [⟨kind, char, ct, true, sh, text⟩]) = false)) (H : Hid (bytesOf ⟨kind, char, ct, true, sh, text⟩ = ([], false))) :
    Calls Tryd.prog 24 #[keyV ⟨kind, char, ct, true, sh, text⟩] w fun e w' => e = .returned (.tuple #[.string ⟨(bytesOf ⟨kind, char, ct, true, sh, text⟩).1.toArray⟩, .bool (bytesOf ⟨kind, char, ct, true, sh, text⟩).2]) ∧ Below w.heap.size w w' := by
  unfold keyV
  simp only
  go_enter Tryd.func24, Tryd.ntmps24
  go_wp2_with (go_at_call 39; (with_reducible refine (sequence_as kind char ct true sh text HE.out _).mono ?_); rintro e w2 ⟨rfl, hb0⟩; have k6 := K6.below (K6.alloc w kind char ct true sh text) hb0; have HB := Lib.hid (bel_ca hb0); obtain ⟨z0, z1, z2, z3, z4, z5⟩ := k6)
  go_region_held3 (fun w' => w'.cell? ⟨w.heap.size, 0, none⟩ = some (.int .i64 kind) ∧ w'.cell? ⟨w.heap.size, 1, none⟩ = some (.int .i32 char) ∧ w'.cell? ⟨w.heap.size, 2, none⟩ = some (.bool ct) ∧ w'.cell? ⟨w.heap.size, 3, none⟩ = some (.bool true) ∧ w'.cell? ⟨w.heap.size, 4, none⟩ = some (.bool sh) ∧ w'.cell? ⟨w.heap.size, 5, none⟩ = some (.string ⟨text.toArray⟩)) (first | exact z6 | exact y6 | go_keep)
    (first
      | (go_at_call 14; (with_reducible refine (decode_all _ hF _ (HT.out.below (bel_drew HB.out))).mono ?_); rintro e wz ⟨v, rfl, ho, hb⟩; rw [HL.out] at ho; obtain ⟨A, c, rfl, hc, hC⟩ := own_C ho; have z6 : K6 _ _ _ _ _ _ _ _ := K6.below ((⟨z0, z1, z2, z3, z4, z5⟩ : K6 w2 w.heap.size kind char ct true sh text)) (W1 := wz) ⟨hb.os, hb.tape, hb.output, hb.size, hb.block⟩)
      | (go_at_call 40; (with_reducible refine (ksame_agg L kind char ct true sh text A c _ hC hc).mono ?_); rintro e wy ⟨rfl, hb2⟩; rw [HR.out]; have y6 := K6.below z6 hb2))
  go_wp2
  go_ret2
  exact ⟨ret_by (F := ⟨#[]⟩) H.out, bel_call (bel_call (bel_drew HB.out) hb) hb2⟩
end Go.Proofs.YtjjilhfebkeoeaaDoor.Ky
