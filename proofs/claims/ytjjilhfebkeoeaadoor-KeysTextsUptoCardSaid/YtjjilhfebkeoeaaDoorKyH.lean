/- meaning's paths: walked (gen/gen_meaning.py printed them). -/
import Derived.Test.YtjjilhfebkeoeaaDoorKyG
import Derived.RegionTactic
import Derived.Deep.DeepCutAuto
import Derived.StillTailTactics
import Derived.ChangeAlike
namespace Go.Proofs.YtjjilhfebkeoeaaDoor.Ky
open Go Go.RowKit
open Go.Proofs.YtjjilhfebkeoeaaDoor.Wk (bcell bel_drew bel_drewN bel_alloc bel_set bel_call size_len mk_data beq_true_i bne_true_i bne_false_i beq_false_i drop_cons var_below)
set_option linter.unusedVariables false
set_option linter.unusedSimpArgs false



set_option maxHeartbeats 4000000 in
set_option maxRecDepth 100000 in
theorem m_e1 (s : ByteArray) (i : Nat) (last : Bool) (h2 : 2 ≤ i) (hi : i < s.size) (hs : s.size ≤ 1000000000) (w : World) (HT : Hid (Tb w)) (A B : ByteArray) (hA : A.size ≤ 1000000000) (hB : B.size ≤ 1000000000) (hii : (i : Int) < s.size) (hi2 : (2 : Int) ≤ i) (hsi : (s.size : Int) ≤ 1000000000) (hxs : (s.extract 2 i).size ≤ 1000000000) (hys : (s.extract 0 (i + 1)).size ≤ 1000000000) (he8 : (s[i].toNat : Int) < 256) (he9 : s[i].toNat < 256) (HC : Hid (cut1 59 (s.extract 2 i).data.toList = (A.data.toList, B.data.toList, true))) (HM : Hid (num B.data.toList = none)) (H : Hid (meaning last s.data.toList i = unknown (s.data.toList.take (i + 1)))) :
    Calls Tryd.prog 75 #[.string s, .int .i64 i, .bool last] w fun e w' => e = .returned (knV (meaning last s.data.toList i)) ∧ Below w.heap.size w w' := by
  go_enter Tryd.func75, Tryd.ntmps75
  go_wp2_with (first
    | (go_at_call 82; (with_reducible refine (cut_as HC.out _ hxs).mono ?_); rintro e wz ⟨rfl, nd, rfl⟩)
    | (go_at_call 83; (with_reducible refine (number_none HM.out hB _).mono ?_); rintro e wz ⟨vm, rfl, rfl⟩)
    | (go_at_call 74; (with_reducible refine (unknown_calls _ _ hys).mono ?_); rintro e wy ⟨rfl, hb2⟩; obtain ⟨hcd, hf2⟩ := bcell hb2; have hy' := lt_alloc_d hb2; unfold knV keyV))
  exact bodyPost_ret (v := knV (unknown (s.data.toList.take (i + 1)))) (by simp [results, Tryd.results75, go_sem, hcd, hy', knV, keyV]) rfl ⟨ret_p H.out, bel6 (bel_call (bel_drewN (bel_a _ _) _) hb2) (Nat.le_refl _)⟩
set_option maxHeartbeats 4000000 in
set_option maxRecDepth 100000 in
theorem m_e2 (s : ByteArray) (i : Nat) (last : Bool) (h2 : 2 ≤ i) (hi : i < s.size) (hs : s.size ≤ 1000000000) (w : World) (HT : Hid (Tb w)) (A B : ByteArray) (hA : A.size ≤ 1000000000) (hB : B.size ≤ 1000000000) (hii : (i : Int) < s.size) (hi2 : (2 : Int) ≤ i) (hsi : (s.size : Int) ≤ 1000000000) (hxs : (s.extract 2 i).size ≤ 1000000000) (hys : (s.extract 0 (i + 1)).size ≤ 1000000000) (he8 : (s[i].toNat : Int) < 256) (he9 : s[i].toNat < 256) (HC : Hid (cut1 59 (s.extract 2 i).data.toList = (A.data.toList, B.data.toList, true))) (m : Nat) (HM : Hid (num B.data.toList = some m)) (qm1 : decide ((m : Int) < 1) = true) (H : Hid (meaning last s.data.toList i = unknown (s.data.toList.take (i + 1)))) :
    Calls Tryd.prog 75 #[.string s, .int .i64 i, .bool last] w fun e w' => e = .returned (knV (meaning last s.data.toList i)) ∧ Below w.heap.size w w' := by
  go_enter Tryd.func75, Tryd.ntmps75
  go_wp2_with (first
    | (go_at_call 82; (with_reducible refine (cut_as HC.out _ hxs).mono ?_); rintro e wz ⟨rfl, nd, rfl⟩)
    | (go_at_call 83; (with_reducible refine (number_some HM.out hB _).mono ?_); rintro e wz ⟨rfl, rfl⟩)
    | (go_at_call 74; (with_reducible refine (unknown_calls _ _ hys).mono ?_); rintro e wy ⟨rfl, hb2⟩; obtain ⟨hcd, hf2⟩ := bcell hb2; have hy' := lt_alloc_d hb2; unfold knV keyV))
  exact bodyPost_ret (v := knV (unknown (s.data.toList.take (i + 1)))) (by simp [results, Tryd.results75, go_sem, hcd, hy', knV, keyV]) rfl ⟨ret_p H.out, bel6 (bel_call (bel_drewN (bel_a _ _) _) hb2) (Nat.le_refl _)⟩
set_option maxHeartbeats 4000000 in
set_option maxRecDepth 100000 in
theorem m_e3 (s : ByteArray) (i : Nat) (last : Bool) (h2 : 2 ≤ i) (hi : i < s.size) (hs : s.size ≤ 1000000000) (w : World) (HT : Hid (Tb w)) (A B : ByteArray) (hA : A.size ≤ 1000000000) (hB : B.size ≤ 1000000000) (hii : (i : Int) < s.size) (hi2 : (2 : Int) ≤ i) (hsi : (s.size : Int) ≤ 1000000000) (hxs : (s.extract 2 i).size ≤ 1000000000) (hys : (s.extract 0 (i + 1)).size ≤ 1000000000) (he8 : (s[i].toNat : Int) < 256) (he9 : s[i].toNat < 256) (HC : Hid (cut1 59 (s.extract 2 i).data.toList = (A.data.toList, B.data.toList, true))) (m : Nat) (HM : Hid (num B.data.toList = some m)) (qm1 : decide ((m : Int) < 1) = false) (qm8 : decide ((8 : Int) < m) = true) (H : Hid (meaning last s.data.toList i = unknown (s.data.toList.take (i + 1)))) :
    Calls Tryd.prog 75 #[.string s, .int .i64 i, .bool last] w fun e w' => e = .returned (knV (meaning last s.data.toList i)) ∧ Below w.heap.size w w' := by
  go_enter Tryd.func75, Tryd.ntmps75
  go_wp2_with (first
    | (go_at_call 82; (with_reducible refine (cut_as HC.out _ hxs).mono ?_); rintro e wz ⟨rfl, nd, rfl⟩)
    | (go_at_call 83; (with_reducible refine (number_some HM.out hB _).mono ?_); rintro e wz ⟨rfl, rfl⟩)
    | (go_at_call 74; (with_reducible refine (unknown_calls _ _ hys).mono ?_); rintro e wy ⟨rfl, hb2⟩; obtain ⟨hcd, hf2⟩ := bcell hb2; have hy' := lt_alloc_d hb2; unfold knV keyV))
  exact bodyPost_ret (v := knV (unknown (s.data.toList.take (i + 1)))) (by simp [results, Tryd.results75, go_sem, hcd, hy', knV, keyV]) rfl ⟨ret_p H.out, bel6 (bel_call (bel_drewN (bel_a _ _) _) hb2) (Nat.le_refl _)⟩
set_option maxHeartbeats 4000000 in
set_option maxRecDepth 100000 in
theorem m_e4 (s : ByteArray) (i : Nat) (last : Bool) (h2 : 2 ≤ i) (hi : i < s.size) (hs : s.size ≤ 1000000000) (w : World) (HT : Hid (Tb w)) (A B : ByteArray) (hA : A.size ≤ 1000000000) (hB : B.size ≤ 1000000000) (hii : (i : Int) < s.size) (hi2 : (2 : Int) ≤ i) (hsi : (s.size : Int) ≤ 1000000000) (hxs : (s.extract 2 i).size ≤ 1000000000) (hys : (s.extract 0 (i + 1)).size ≤ 1000000000) (he8 : (s[i].toNat : Int) < 256) (he9 : s[i].toNat < 256) (HC : Hid (cut1 59 (s.extract 2 i).data.toList = (A.data.toList, B.data.toList, true))) (m : Nat) (HM : Hid (num B.data.toList = some m)) (qm1 : decide ((m : Int) < 1) = false) (qm8 : decide ((8 : Int) < m) = false) (HN : Hid (num A.data.toList = none)) (H : Hid (meaning last s.data.toList i = unknown (s.data.toList.take (i + 1)))) :
    Calls Tryd.prog 75 #[.string s, .int .i64 i, .bool last] w fun e w' => e = .returned (knV (meaning last s.data.toList i)) ∧ Below w.heap.size w w' := by
  go_enter Tryd.func75, Tryd.ntmps75
  go_wp2_with (first
    | (go_at_call 82; (with_reducible refine (cut_as HC.out _ hxs).mono ?_); rintro e wz ⟨rfl, nd, rfl⟩)
    | (go_at_call 83; (with_reducible refine (number_some HM.out hB _).mono ?_); rintro e wz ⟨rfl, rfl⟩)
    | (go_at_call 83; (with_reducible refine (number_none HN.out hA _).mono ?_); rintro e wz ⟨vn, rfl, rfl⟩)
    | (go_at_call 74; (with_reducible refine (unknown_calls _ _ hys).mono ?_); rintro e wy ⟨rfl, hb2⟩; obtain ⟨hcd, hf2⟩ := bcell hb2; have hy' := lt_alloc_d hb2; unfold knV keyV))
  exact bodyPost_ret (v := knV (unknown (s.data.toList.take (i + 1)))) (by simp [results, Tryd.results75, go_sem, hcd, hy', knV, keyV]) rfl ⟨ret_p H.out, bel6 (bel_call (bel_drewN (bel_a _ _) _) hb2) (Nat.le_refl _)⟩
set_option maxHeartbeats 4000000 in
set_option maxRecDepth 100000 in
theorem m_e6 (s : ByteArray) (i : Nat) (last : Bool) (h2 : 2 ≤ i) (hi : i < s.size) (hs : s.size ≤ 1000000000) (w : World) (HT : Hid (Tb w)) (A B : ByteArray) (hA : A.size ≤ 1000000000) (hB : B.size ≤ 1000000000) (hii : (i : Int) < s.size) (hi2 : (2 : Int) ≤ i) (hsi : (s.size : Int) ≤ 1000000000) (hxs : (s.extract 2 i).size ≤ 1000000000) (hys : (s.extract 0 (i + 1)).size ≤ 1000000000) (he8 : (s[i].toNat : Int) < 256) (he9 : s[i].toNat < 256) (HC : Hid (cut1 59 (s.extract 2 i).data.toList = (A.data.toList, B.data.toList, false))) (qa : A.toList.isEmpty = false) (qa2 : (!A.toList.isEmpty) = true) (qa3 : ¬ A.toList = []) (HN : Hid (num A.data.toList = none)) (H : Hid (meaning last s.data.toList i = unknown (s.data.toList.take (i + 1)))) :
    Calls Tryd.prog 75 #[.string s, .int .i64 i, .bool last] w fun e w' => e = .returned (knV (meaning last s.data.toList i)) ∧ Below w.heap.size w w' := by
  go_enter Tryd.func75, Tryd.ntmps75
  go_wp2_with (first
    | (go_at_call 82; (with_reducible refine (cut_as HC.out _ hxs).mono ?_); rintro e wz ⟨rfl, nd, rfl⟩)
    | (go_at_call 83; (with_reducible refine (number_none HN.out hA _).mono ?_); rintro e wz ⟨vn, rfl, rfl⟩)
    | (go_at_call 74; (with_reducible refine (unknown_calls _ _ hys).mono ?_); rintro e wy ⟨rfl, hb2⟩; obtain ⟨hcd, hf2⟩ := bcell hb2; have hy' := lt_alloc_d hb2; unfold knV keyV))
  exact bodyPost_ret (v := knV (unknown (s.data.toList.take (i + 1)))) (by simp [results, Tryd.results75, go_sem, hcd, hy', knV, keyV]) rfl ⟨ret_p H.out, bel6 (bel_call (bel_drewN (bel_a _ _) _) hb2) (Nat.le_refl _)⟩
set_option maxHeartbeats 4000000 in
set_option maxRecDepth 100000 in
theorem m_4_t2 (s : ByteArray) (i : Nat) (last : Bool) (h2 : 2 ≤ i) (hi : i < s.size) (hs : s.size ≤ 1000000000) (w : World) (HT : Hid (Tb w)) (A B : ByteArray) (hA : A.size ≤ 1000000000) (hB : B.size ≤ 1000000000) (hii : (i : Int) < s.size) (hi2 : (2 : Int) ≤ i) (hsi : (s.size : Int) ≤ 1000000000) (hxs : (s.extract 2 i).size ≤ 1000000000) (hys : (s.extract 0 (i + 1)).size ≤ 1000000000) (he8 : (s[i].toNat : Int) < 256) (he9 : s[i].toNat < 256) (HC : Hid (cut1 59 (s.extract 2 i).data.toList = (A.data.toList, B.data.toList, true))) (n m : Nat) (HM : Hid (num B.data.toList = some m)) (hm1 : (1 : Int) ≤ m) (hm8 : (m : Int) ≤ 8) (qm1 : decide ((m : Int) < 1) = false) (qm8 : decide ((8 : Int) < m) = false) (HN : Hid (num A.data.toList = some n)) (qe : ((s[i].toNat : Int) == 126) = true) (qn : ((n : Int) == 200) = false) (qk : ((numbered (n : Int)).kind == 0) = true) (H : Hid (meaning last s.data.toList i = unknown (s.data.toList.take (i + 1)))) :
    Calls Tryd.prog 75 #[.string s, .int .i64 i, .bool last] w fun e w' => e = .returned (knV (meaning last s.data.toList i)) ∧ Below w.heap.size w w' := by
  go_enter Tryd.func75, Tryd.ntmps75
  go_upto_region 19 with (first
    | (go_at_call 82; (with_reducible refine (cut_as HC.out _ hxs).mono ?_); rintro e wz ⟨rfl, nd, rfl⟩)
    | (go_at_call 83; (with_reducible refine (number_some HM.out hB _).mono ?_); rintro e wz ⟨rfl, rfl⟩)
    | (go_at_call 83; (with_reducible refine (number_some HN.out hA _).mono ?_); rintro e wz ⟨rfl, rfl⟩)
    | (go_at_call 58; (with_reducible refine (numbered_calls n _).mono ?_); rintro e wz ⟨rfl, hb⟩; obtain ⟨hc', hf⟩ := bcell hb; have hz' := lt_alloc hb; unfold keyV))
  have HA := at22 (numbered (n : Int)) hb
  revert HA
  generalize ((((((wz.setCell ⟨w.heap.size + 1, 0, none⟩ (.int .i64 (numbered (n : Int)).kind)).setCell ⟨w.heap.size + 1, 1, none⟩ (.int .i32 (numbered (n : Int)).char)).setCell ⟨w.heap.size + 1, 2, none⟩ (.bool (numbered (n : Int)).ctrl)).setCell ⟨w.heap.size + 1, 3, none⟩ (.bool (numbered (n : Int)).mt)).setCell ⟨w.heap.size + 1, 4, none⟩ (.bool (numbered (n : Int)).shift)).setCell ⟨w.heap.size + 1, 5, none⟩ (.string ⟨(numbered (n : Int)).text.toArray⟩)) = wr
  intro HA
  obtain ⟨hb0, hb1, hbel⟩ := HA
  have hbel := Lib.hid hbel
  have c0 : wr.cell? ⟨w.heap.size, 0, none⟩ = some (.int .i64 0) := Wk.blk_cell hb0 0
  have d0 : wr.cell? ⟨w.heap.size + 1, 0, none⟩ = some (.int .i64 (numbered (n : Int)).kind) := Wk.blk_cell hb1 0
  have cf0 : wr.frozen? ⟨w.heap.size, 0, none⟩ = false := Wk.blk_frozen hb0 0
  have df0 : wr.frozen? ⟨w.heap.size + 1, 0, none⟩ = false := Wk.blk_frozen hb1 0
  have c1 : wr.cell? ⟨w.heap.size, 1, none⟩ = some (.int .i32 0) := Wk.blk_cell hb0 1
  have d1 : wr.cell? ⟨w.heap.size + 1, 1, none⟩ = some (.int .i32 (numbered (n : Int)).char) := Wk.blk_cell hb1 1
  have cf1 : wr.frozen? ⟨w.heap.size, 1, none⟩ = false := Wk.blk_frozen hb0 1
  have df1 : wr.frozen? ⟨w.heap.size + 1, 1, none⟩ = false := Wk.blk_frozen hb1 1
  have c2 : wr.cell? ⟨w.heap.size, 2, none⟩ = some (.bool false) := Wk.blk_cell hb0 2
  have d2 : wr.cell? ⟨w.heap.size + 1, 2, none⟩ = some (.bool (numbered (n : Int)).ctrl) := Wk.blk_cell hb1 2
  have cf2 : wr.frozen? ⟨w.heap.size, 2, none⟩ = false := Wk.blk_frozen hb0 2
  have df2 : wr.frozen? ⟨w.heap.size + 1, 2, none⟩ = false := Wk.blk_frozen hb1 2
  have c3 : wr.cell? ⟨w.heap.size, 3, none⟩ = some (.bool false) := Wk.blk_cell hb0 3
  have d3 : wr.cell? ⟨w.heap.size + 1, 3, none⟩ = some (.bool (numbered (n : Int)).mt) := Wk.blk_cell hb1 3
  have cf3 : wr.frozen? ⟨w.heap.size, 3, none⟩ = false := Wk.blk_frozen hb0 3
  have df3 : wr.frozen? ⟨w.heap.size + 1, 3, none⟩ = false := Wk.blk_frozen hb1 3
  have c4 : wr.cell? ⟨w.heap.size, 4, none⟩ = some (.bool false) := Wk.blk_cell hb0 4
  have d4 : wr.cell? ⟨w.heap.size + 1, 4, none⟩ = some (.bool (numbered (n : Int)).shift) := Wk.blk_cell hb1 4
  have cf4 : wr.frozen? ⟨w.heap.size, 4, none⟩ = false := Wk.blk_frozen hb0 4
  have df4 : wr.frozen? ⟨w.heap.size + 1, 4, none⟩ = false := Wk.blk_frozen hb1 4
  have c5 : wr.cell? ⟨w.heap.size, 5, none⟩ = some (.string ⟨#[]⟩) := Wk.blk_cell hb0 5
  have d5 : wr.cell? ⟨w.heap.size + 1, 5, none⟩ = some (.string ⟨(numbered (n : Int)).text.toArray⟩) := Wk.blk_cell hb1 5
  have cf5 : wr.frozen? ⟨w.heap.size, 5, none⟩ = false := Wk.blk_frozen hb0 5
  have df5 : wr.frozen? ⟨w.heap.size + 1, 5, none⟩ = false := Wk.blk_frozen hb1 5
  have lt0 := lt_blk hb0
  clear hb0 hb1 hb hc' hf hz'
  go_wp2_with (go_at_call 74; (with_reducible refine (unknown_calls _ _ hys).mono ?_); rintro e wy ⟨rfl, hb2⟩; obtain ⟨hcd, hf2⟩ := bcell hb2; have hy' := lt_next lt0 hb2; unfold knV keyV)
  exact bodyPost_ret (v := knV (unknown (s.data.toList.take (i + 1)))) (by simp [results, Tryd.results75, go_sem, hcd, hy', lt0, c0, c1, c2, c3, c4, c5, knV, keyV]) rfl ⟨ret_p H.out, bel6 (bel_call hbel.out hb2) (Nat.le_refl _)⟩
set_option maxHeartbeats 4000000 in
set_option maxRecDepth 100000 in
theorem m_4_t2b (s : ByteArray) (i : Nat) (last : Bool) (h2 : 2 ≤ i) (hi : i < s.size) (hs : s.size ≤ 1000000000) (w : World) (HT : Hid (Tb w)) (A B : ByteArray) (hA : A.size ≤ 1000000000) (hB : B.size ≤ 1000000000) (hii : (i : Int) < s.size) (hi2 : (2 : Int) ≤ i) (hsi : (s.size : Int) ≤ 1000000000) (hxs : (s.extract 2 i).size ≤ 1000000000) (hys : (s.extract 0 (i + 1)).size ≤ 1000000000) (he8 : (s[i].toNat : Int) < 256) (he9 : s[i].toNat < 256) (HC : Hid (cut1 59 (s.extract 2 i).data.toList = (A.data.toList, B.data.toList, true))) (n m : Nat) (HM : Hid (num B.data.toList = some m)) (hm1 : (1 : Int) ≤ m) (hm8 : (m : Int) ≤ 8) (qm1 : decide ((m : Int) < 1) = false) (qm8 : decide ((8 : Int) < m) = false) (HN : Hid (num A.data.toList = some n)) (qe : ((s[i].toNat : Int) == 126) = true) (qn : ((n : Int) == 200) = true) (qk : ((numbered (n : Int)).kind == 0) = true) (H : Hid (meaning last s.data.toList i = unknown (s.data.toList.take (i + 1)))) :
    Calls Tryd.prog 75 #[.string s, .int .i64 i, .bool last] w fun e w' => e = .returned (knV (meaning last s.data.toList i)) ∧ Below w.heap.size w w' := by
  go_enter Tryd.func75, Tryd.ntmps75
  go_upto_region 19 with (first
    | (go_at_call 82; (with_reducible refine (cut_as HC.out _ hxs).mono ?_); rintro e wz ⟨rfl, nd, rfl⟩)
    | (go_at_call 83; (with_reducible refine (number_some HM.out hB _).mono ?_); rintro e wz ⟨rfl, rfl⟩)
    | (go_at_call 83; (with_reducible refine (number_some HN.out hA _).mono ?_); rintro e wz ⟨rfl, rfl⟩)
    | (go_at_call 58; (with_reducible refine (numbered_calls n _).mono ?_); rintro e wz ⟨rfl, hb⟩; obtain ⟨hc', hf⟩ := bcell hb; have hz' := lt_alloc hb; unfold keyV))
  have HA := at22 (numbered (n : Int)) hb
  revert HA
  generalize ((((((wz.setCell ⟨w.heap.size + 1, 0, none⟩ (.int .i64 (numbered (n : Int)).kind)).setCell ⟨w.heap.size + 1, 1, none⟩ (.int .i32 (numbered (n : Int)).char)).setCell ⟨w.heap.size + 1, 2, none⟩ (.bool (numbered (n : Int)).ctrl)).setCell ⟨w.heap.size + 1, 3, none⟩ (.bool (numbered (n : Int)).mt)).setCell ⟨w.heap.size + 1, 4, none⟩ (.bool (numbered (n : Int)).shift)).setCell ⟨w.heap.size + 1, 5, none⟩ (.string ⟨(numbered (n : Int)).text.toArray⟩)) = wr
  intro HA
  obtain ⟨hb0, hb1, hbel⟩ := HA
  have hbel := Lib.hid hbel
  have c0 : wr.cell? ⟨w.heap.size, 0, none⟩ = some (.int .i64 0) := Wk.blk_cell hb0 0
  have d0 : wr.cell? ⟨w.heap.size + 1, 0, none⟩ = some (.int .i64 (numbered (n : Int)).kind) := Wk.blk_cell hb1 0
  have cf0 : wr.frozen? ⟨w.heap.size, 0, none⟩ = false := Wk.blk_frozen hb0 0
  have df0 : wr.frozen? ⟨w.heap.size + 1, 0, none⟩ = false := Wk.blk_frozen hb1 0
  have c1 : wr.cell? ⟨w.heap.size, 1, none⟩ = some (.int .i32 0) := Wk.blk_cell hb0 1
  have d1 : wr.cell? ⟨w.heap.size + 1, 1, none⟩ = some (.int .i32 (numbered (n : Int)).char) := Wk.blk_cell hb1 1
  have cf1 : wr.frozen? ⟨w.heap.size, 1, none⟩ = false := Wk.blk_frozen hb0 1
  have df1 : wr.frozen? ⟨w.heap.size + 1, 1, none⟩ = false := Wk.blk_frozen hb1 1
  have c2 : wr.cell? ⟨w.heap.size, 2, none⟩ = some (.bool false) := Wk.blk_cell hb0 2
  have d2 : wr.cell? ⟨w.heap.size + 1, 2, none⟩ = some (.bool (numbered (n : Int)).ctrl) := Wk.blk_cell hb1 2
  have cf2 : wr.frozen? ⟨w.heap.size, 2, none⟩ = false := Wk.blk_frozen hb0 2
  have df2 : wr.frozen? ⟨w.heap.size + 1, 2, none⟩ = false := Wk.blk_frozen hb1 2
  have c3 : wr.cell? ⟨w.heap.size, 3, none⟩ = some (.bool false) := Wk.blk_cell hb0 3
  have d3 : wr.cell? ⟨w.heap.size + 1, 3, none⟩ = some (.bool (numbered (n : Int)).mt) := Wk.blk_cell hb1 3
  have cf3 : wr.frozen? ⟨w.heap.size, 3, none⟩ = false := Wk.blk_frozen hb0 3
  have df3 : wr.frozen? ⟨w.heap.size + 1, 3, none⟩ = false := Wk.blk_frozen hb1 3
  have c4 : wr.cell? ⟨w.heap.size, 4, none⟩ = some (.bool false) := Wk.blk_cell hb0 4
  have d4 : wr.cell? ⟨w.heap.size + 1, 4, none⟩ = some (.bool (numbered (n : Int)).shift) := Wk.blk_cell hb1 4
  have cf4 : wr.frozen? ⟨w.heap.size, 4, none⟩ = false := Wk.blk_frozen hb0 4
  have df4 : wr.frozen? ⟨w.heap.size + 1, 4, none⟩ = false := Wk.blk_frozen hb1 4
  have c5 : wr.cell? ⟨w.heap.size, 5, none⟩ = some (.string ⟨#[]⟩) := Wk.blk_cell hb0 5
  have d5 : wr.cell? ⟨w.heap.size + 1, 5, none⟩ = some (.string ⟨(numbered (n : Int)).text.toArray⟩) := Wk.blk_cell hb1 5
  have cf5 : wr.frozen? ⟨w.heap.size, 5, none⟩ = false := Wk.blk_frozen hb0 5
  have df5 : wr.frozen? ⟨w.heap.size + 1, 5, none⟩ = false := Wk.blk_frozen hb1 5
  have lt0 := lt_blk hb0
  clear hb0 hb1 hb hc' hf hz'
  go_wp2_with (go_at_call 74; (with_reducible refine (unknown_calls _ _ hys).mono ?_); rintro e wy ⟨rfl, hb2⟩; obtain ⟨hcd, hf2⟩ := bcell hb2; have hy' := lt_next lt0 hb2; unfold knV keyV)
  exact bodyPost_ret (v := knV (unknown (s.data.toList.take (i + 1)))) (by simp [results, Tryd.results75, go_sem, hcd, hy', lt0, c0, c1, c2, c3, c4, c5, knV, keyV]) rfl ⟨ret_p H.out, bel6 (bel_call hbel.out hb2) (Nat.le_refl _)⟩
set_option maxHeartbeats 4000000 in
set_option maxRecDepth 100000 in
theorem m_4_t3 (s : ByteArray) (i : Nat) (last : Bool) (h2 : 2 ≤ i) (hi : i < s.size) (hs : s.size ≤ 1000000000) (w : World) (HT : Hid (Tb w)) (A B : ByteArray) (hA : A.size ≤ 1000000000) (hB : B.size ≤ 1000000000) (hii : (i : Int) < s.size) (hi2 : (2 : Int) ≤ i) (hsi : (s.size : Int) ≤ 1000000000) (hxs : (s.extract 2 i).size ≤ 1000000000) (hys : (s.extract 0 (i + 1)).size ≤ 1000000000) (he8 : (s[i].toNat : Int) < 256) (he9 : s[i].toNat < 256) (HC : Hid (cut1 59 (s.extract 2 i).data.toList = (A.data.toList, B.data.toList, true))) (n m : Nat) (HM : Hid (num B.data.toList = some m)) (hm1 : (1 : Int) ≤ m) (hm8 : (m : Int) ≤ 8) (qm1 : decide ((m : Int) < 1) = false) (qm8 : decide ((8 : Int) < m) = false) (HN : Hid (num A.data.toList = some n)) (qe : ((s[i].toNat : Int) == 126) = true) (qn : ((n : Int) == 200) = false) (qk : ((numbered (n : Int)).kind == 0) = false) (qt : ((numbered (n : Int)).kind == 15) = false) (x1 x2 x4 : Int) (E1 : bits .and .i64 ((m : Int) - 1) 1 = x1) (E2 : bits .and .i64 ((m : Int) - 1) 2 = x2) (E4 : bits .and .i64 ((m : Int) - 1) 4 = x4) (b1 b2 b4 : Bool) (F1 : (x1 != 0) = b1) (F2 : (x2 != 0) = b2) (F4 : (x4 != 0) = b4) (H : Hid (meaning last s.data.toList i = ({ numbered (n : Int) with shift := b1, mt := b2, ctrl := b4 }, i + 1))) :
    Calls Tryd.prog 75 #[.string s, .int .i64 i, .bool last] w fun e w' => e = .returned (knV (meaning last s.data.toList i)) ∧ Below w.heap.size w w' := by
  go_enter Tryd.func75, Tryd.ntmps75
  go_upto_region 22 with (first
    | (go_at_call 82; (with_reducible refine (cut_as HC.out _ hxs).mono ?_); rintro e wz ⟨rfl, nd, rfl⟩)
    | (go_at_call 83; (with_reducible refine (number_some HM.out hB _).mono ?_); rintro e wz ⟨rfl, rfl⟩)
    | (go_at_call 83; (with_reducible refine (number_some HN.out hA _).mono ?_); rintro e wz ⟨rfl, rfl⟩)
    | (go_at_call 58; (with_reducible refine (numbered_calls n _).mono ?_); rintro e wz ⟨rfl, hb⟩; obtain ⟨hc', hf⟩ := bcell hb; have hz' := lt_alloc hb; unfold keyV))
  have HA := at22 (numbered (n : Int)) hb
  revert HA
  generalize ((((((wz.setCell ⟨w.heap.size + 1, 0, none⟩ (.int .i64 (numbered (n : Int)).kind)).setCell ⟨w.heap.size + 1, 1, none⟩ (.int .i32 (numbered (n : Int)).char)).setCell ⟨w.heap.size + 1, 2, none⟩ (.bool (numbered (n : Int)).ctrl)).setCell ⟨w.heap.size + 1, 3, none⟩ (.bool (numbered (n : Int)).mt)).setCell ⟨w.heap.size + 1, 4, none⟩ (.bool (numbered (n : Int)).shift)).setCell ⟨w.heap.size + 1, 5, none⟩ (.string ⟨(numbered (n : Int)).text.toArray⟩)) = wr
  intro HA
  obtain ⟨hb0, hb1, hbel⟩ := HA
  have hbel := Lib.hid hbel
  have c0 : wr.cell? ⟨w.heap.size, 0, none⟩ = some (.int .i64 0) := Wk.blk_cell hb0 0
  have d0 : wr.cell? ⟨w.heap.size + 1, 0, none⟩ = some (.int .i64 (numbered (n : Int)).kind) := Wk.blk_cell hb1 0
  have cf0 : wr.frozen? ⟨w.heap.size, 0, none⟩ = false := Wk.blk_frozen hb0 0
  have df0 : wr.frozen? ⟨w.heap.size + 1, 0, none⟩ = false := Wk.blk_frozen hb1 0
  have c1 : wr.cell? ⟨w.heap.size, 1, none⟩ = some (.int .i32 0) := Wk.blk_cell hb0 1
  have d1 : wr.cell? ⟨w.heap.size + 1, 1, none⟩ = some (.int .i32 (numbered (n : Int)).char) := Wk.blk_cell hb1 1
  have cf1 : wr.frozen? ⟨w.heap.size, 1, none⟩ = false := Wk.blk_frozen hb0 1
  have df1 : wr.frozen? ⟨w.heap.size + 1, 1, none⟩ = false := Wk.blk_frozen hb1 1
  have c2 : wr.cell? ⟨w.heap.size, 2, none⟩ = some (.bool false) := Wk.blk_cell hb0 2
  have d2 : wr.cell? ⟨w.heap.size + 1, 2, none⟩ = some (.bool (numbered (n : Int)).ctrl) := Wk.blk_cell hb1 2
  have cf2 : wr.frozen? ⟨w.heap.size, 2, none⟩ = false := Wk.blk_frozen hb0 2
  have df2 : wr.frozen? ⟨w.heap.size + 1, 2, none⟩ = false := Wk.blk_frozen hb1 2
  have c3 : wr.cell? ⟨w.heap.size, 3, none⟩ = some (.bool false) := Wk.blk_cell hb0 3
  have d3 : wr.cell? ⟨w.heap.size + 1, 3, none⟩ = some (.bool (numbered (n : Int)).mt) := Wk.blk_cell hb1 3
  have cf3 : wr.frozen? ⟨w.heap.size, 3, none⟩ = false := Wk.blk_frozen hb0 3
  have df3 : wr.frozen? ⟨w.heap.size + 1, 3, none⟩ = false := Wk.blk_frozen hb1 3
  have c4 : wr.cell? ⟨w.heap.size, 4, none⟩ = some (.bool false) := Wk.blk_cell hb0 4
  have d4 : wr.cell? ⟨w.heap.size + 1, 4, none⟩ = some (.bool (numbered (n : Int)).shift) := Wk.blk_cell hb1 4
  have cf4 : wr.frozen? ⟨w.heap.size, 4, none⟩ = false := Wk.blk_frozen hb0 4
  have df4 : wr.frozen? ⟨w.heap.size + 1, 4, none⟩ = false := Wk.blk_frozen hb1 4
  have c5 : wr.cell? ⟨w.heap.size, 5, none⟩ = some (.string ⟨#[]⟩) := Wk.blk_cell hb0 5
  have d5 : wr.cell? ⟨w.heap.size + 1, 5, none⟩ = some (.string ⟨(numbered (n : Int)).text.toArray⟩) := Wk.blk_cell hb1 5
  have cf5 : wr.frozen? ⟨w.heap.size, 5, none⟩ = false := Wk.blk_frozen hb0 5
  have df5 : wr.frozen? ⟨w.heap.size + 1, 5, none⟩ = false := Wk.blk_frozen hb1 5
  have lt0 := lt_blk hb0
  clear hb0 hb1 hb hc' hf hz'
  go_wp2
  exact bodyPost_ret (v := .tuple #[keyV { numbered (n : Int) with shift := b1, mt := b2, ctrl := b4 }, .int .i64 (i + 1 : Nat)]) (by simp [results, Tryd.results75, go_sem, c0, c1, c2, c3, c4, c5, keyV]) rfl ⟨ret_p H.out, bel6 (bel_set (bel_set (bel_set hbel.out (Nat.le_succ _) _) (Nat.le_succ _) _) (Nat.le_succ _) _) (Nat.le_refl _)⟩
set_option maxHeartbeats 4000000 in
set_option maxRecDepth 100000 in
theorem m_4_t6 (s : ByteArray) (i : Nat) (last : Bool) (h2 : 2 ≤ i) (hi : i < s.size) (hs : s.size ≤ 1000000000) (w : World) (HT : Hid (Tb w)) (A B : ByteArray) (hA : A.size ≤ 1000000000) (hB : B.size ≤ 1000000000) (hii : (i : Int) < s.size) (hi2 : (2 : Int) ≤ i) (hsi : (s.size : Int) ≤ 1000000000) (hxs : (s.extract 2 i).size ≤ 1000000000) (hys : (s.extract 0 (i + 1)).size ≤ 1000000000) (he8 : (s[i].toNat : Int) < 256) (he9 : s[i].toNat < 256) (HC : Hid (cut1 59 (s.extract 2 i).data.toList = (A.data.toList, B.data.toList, true))) (n m : Nat) (HM : Hid (num B.data.toList = some m)) (hm1 : (1 : Int) ≤ m) (hm8 : (m : Int) ≤ 8) (qm1 : decide ((m : Int) < 1) = false) (qm8 : decide ((8 : Int) < m) = false) (HN : Hid (num A.data.toList = some n)) (qe : ((s[i].toNat : Int) == 126) = false) (q1 : ((n : Int) == 1) = false) (H : Hid (meaning last s.data.toList i = unknown (s.data.toList.take (i + 1)))) :
    Calls Tryd.prog 75 #[.string s, .int .i64 i, .bool last] w fun e w' => e = .returned (knV (meaning last s.data.toList i)) ∧ Below w.heap.size w w' := by
  go_enter Tryd.func75, Tryd.ntmps75
  go_upto_region 19 with (first
    | (go_at_call 82; (with_reducible refine (cut_as HC.out _ hxs).mono ?_); rintro e wz ⟨rfl, nd, rfl⟩)
    | (go_at_call 83; (with_reducible refine (number_some HM.out hB _).mono ?_); rintro e wz ⟨rfl, rfl⟩)
    | (go_at_call 83; (with_reducible refine (number_some HN.out hA _).mono ?_); rintro e wz ⟨rfl, rfl⟩))
  have HA := at22z (w := w) (nd := nd)
  revert HA
  generalize (((w.alloc (.cells #[.int .i64 0, .int .i32 0, .bool false, .bool false, .bool false, .string ⟨#[]⟩] 50)).drewN nd).alloc (.cells #[.int .i64 0, .int .i32 0, .bool false, .bool false, .bool false, .string ⟨#[]⟩] 50)) = wr
  intro HA
  obtain ⟨hb0, hb1, hbel⟩ := HA
  have hbel := Lib.hid hbel
  have c0 : wr.cell? ⟨w.heap.size, 0, none⟩ = some (.int .i64 0) := Wk.blk_cell hb0 0
  have d0 : wr.cell? ⟨w.heap.size + 1, 0, none⟩ = some (.int .i64 0) := Wk.blk_cell hb1 0
  have cf0 : wr.frozen? ⟨w.heap.size, 0, none⟩ = false := Wk.blk_frozen hb0 0
  have df0 : wr.frozen? ⟨w.heap.size + 1, 0, none⟩ = false := Wk.blk_frozen hb1 0
  have c1 : wr.cell? ⟨w.heap.size, 1, none⟩ = some (.int .i32 0) := Wk.blk_cell hb0 1
  have d1 : wr.cell? ⟨w.heap.size + 1, 1, none⟩ = some (.int .i32 0) := Wk.blk_cell hb1 1
  have cf1 : wr.frozen? ⟨w.heap.size, 1, none⟩ = false := Wk.blk_frozen hb0 1
  have df1 : wr.frozen? ⟨w.heap.size + 1, 1, none⟩ = false := Wk.blk_frozen hb1 1
  have c2 : wr.cell? ⟨w.heap.size, 2, none⟩ = some (.bool false) := Wk.blk_cell hb0 2
  have d2 : wr.cell? ⟨w.heap.size + 1, 2, none⟩ = some (.bool false) := Wk.blk_cell hb1 2
  have cf2 : wr.frozen? ⟨w.heap.size, 2, none⟩ = false := Wk.blk_frozen hb0 2
  have df2 : wr.frozen? ⟨w.heap.size + 1, 2, none⟩ = false := Wk.blk_frozen hb1 2
  have c3 : wr.cell? ⟨w.heap.size, 3, none⟩ = some (.bool false) := Wk.blk_cell hb0 3
  have d3 : wr.cell? ⟨w.heap.size + 1, 3, none⟩ = some (.bool false) := Wk.blk_cell hb1 3
  have cf3 : wr.frozen? ⟨w.heap.size, 3, none⟩ = false := Wk.blk_frozen hb0 3
  have df3 : wr.frozen? ⟨w.heap.size + 1, 3, none⟩ = false := Wk.blk_frozen hb1 3
  have c4 : wr.cell? ⟨w.heap.size, 4, none⟩ = some (.bool false) := Wk.blk_cell hb0 4
  have d4 : wr.cell? ⟨w.heap.size + 1, 4, none⟩ = some (.bool false) := Wk.blk_cell hb1 4
  have cf4 : wr.frozen? ⟨w.heap.size, 4, none⟩ = false := Wk.blk_frozen hb0 4
  have df4 : wr.frozen? ⟨w.heap.size + 1, 4, none⟩ = false := Wk.blk_frozen hb1 4
  have c5 : wr.cell? ⟨w.heap.size, 5, none⟩ = some (.string ⟨#[]⟩) := Wk.blk_cell hb0 5
  have d5 : wr.cell? ⟨w.heap.size + 1, 5, none⟩ = some (.string ⟨#[]⟩) := Wk.blk_cell hb1 5
  have cf5 : wr.frozen? ⟨w.heap.size, 5, none⟩ = false := Wk.blk_frozen hb0 5
  have df5 : wr.frozen? ⟨w.heap.size + 1, 5, none⟩ = false := Wk.blk_frozen hb1 5
  have lt0 := lt_blk hb0
  clear hb0 hb1
  go_wp2_with (go_at_call 74; (with_reducible refine (unknown_calls _ _ hys).mono ?_); rintro e wy ⟨rfl, hb2⟩; obtain ⟨hcd, hf2⟩ := bcell hb2; have hy' := lt_next lt0 hb2; unfold knV keyV)
  exact bodyPost_ret (v := knV (unknown (s.data.toList.take (i + 1)))) (by simp [results, Tryd.results75, go_sem, hcd, hy', lt0, c0, c1, c2, c3, c4, c5, knV, keyV]) rfl ⟨ret_p H.out, bel6 (bel_call hbel.out hb2) (Nat.le_refl _)⟩
set_option maxHeartbeats 4000000 in
set_option maxRecDepth 100000 in
theorem m_4_t4 (s : ByteArray) (i : Nat) (last : Bool) (h2 : 2 ≤ i) (hi : i < s.size) (hs : s.size ≤ 1000000000) (w : World) (HT : Hid (Tb w)) (A B : ByteArray) (hA : A.size ≤ 1000000000) (hB : B.size ≤ 1000000000) (hii : (i : Int) < s.size) (hi2 : (2 : Int) ≤ i) (hsi : (s.size : Int) ≤ 1000000000) (hxs : (s.extract 2 i).size ≤ 1000000000) (hys : (s.extract 0 (i + 1)).size ≤ 1000000000) (he8 : (s[i].toNat : Int) < 256) (he9 : s[i].toNat < 256) (HC : Hid (cut1 59 (s.extract 2 i).data.toList = (A.data.toList, B.data.toList, true))) (n m : Nat) (HM : Hid (num B.data.toList = some m)) (hm1 : (1 : Int) ≤ m) (hm8 : (m : Int) ≤ 8) (qm1 : decide ((m : Int) < 1) = false) (qm8 : decide ((8 : Int) < m) = false) (HN : Hid (num A.data.toList = some n)) (qe : ((s[i].toNat : Int) == 126) = false) (q1 : ((n : Int) == 1) = true) (qk : ((lettered s[i].toNat).kind == 0) = true) (H : Hid (meaning last s.data.toList i = unknown (s.data.toList.take (i + 1)))) :
    Calls Tryd.prog 75 #[.string s, .int .i64 i, .bool last] w fun e w' => e = .returned (knV (meaning last s.data.toList i)) ∧ Below w.heap.size w w' := by
  go_enter Tryd.func75, Tryd.ntmps75
  go_upto_region 19 with (first
    | (go_at_call 82; (with_reducible refine (cut_as HC.out _ hxs).mono ?_); rintro e wz ⟨rfl, nd, rfl⟩)
    | (go_at_call 83; (with_reducible refine (number_some HM.out hB _).mono ?_); rintro e wz ⟨rfl, rfl⟩)
    | (go_at_call 83; (with_reducible refine (number_some HN.out hA _).mono ?_); rintro e wz ⟨rfl, rfl⟩)
    | (go_at_call 57; (with_reducible refine (lettered_calls s[i].toNat he9 _).mono ?_); rintro e wz ⟨rfl, hb⟩; obtain ⟨hc', hf⟩ := bcell hb; have hz' := lt_alloc hb; unfold keyV))
  have HA := at22 (lettered s[i].toNat) hb
  revert HA
  generalize ((((((wz.setCell ⟨w.heap.size + 1, 0, none⟩ (.int .i64 (lettered s[i].toNat).kind)).setCell ⟨w.heap.size + 1, 1, none⟩ (.int .i32 (lettered s[i].toNat).char)).setCell ⟨w.heap.size + 1, 2, none⟩ (.bool (lettered s[i].toNat).ctrl)).setCell ⟨w.heap.size + 1, 3, none⟩ (.bool (lettered s[i].toNat).mt)).setCell ⟨w.heap.size + 1, 4, none⟩ (.bool (lettered s[i].toNat).shift)).setCell ⟨w.heap.size + 1, 5, none⟩ (.string ⟨(lettered s[i].toNat).text.toArray⟩)) = wr
  intro HA
  obtain ⟨hb0, hb1, hbel⟩ := HA
  have hbel := Lib.hid hbel
  have c0 : wr.cell? ⟨w.heap.size, 0, none⟩ = some (.int .i64 0) := Wk.blk_cell hb0 0
  have d0 : wr.cell? ⟨w.heap.size + 1, 0, none⟩ = some (.int .i64 (lettered s[i].toNat).kind) := Wk.blk_cell hb1 0
  have cf0 : wr.frozen? ⟨w.heap.size, 0, none⟩ = false := Wk.blk_frozen hb0 0
  have df0 : wr.frozen? ⟨w.heap.size + 1, 0, none⟩ = false := Wk.blk_frozen hb1 0
  have c1 : wr.cell? ⟨w.heap.size, 1, none⟩ = some (.int .i32 0) := Wk.blk_cell hb0 1
  have d1 : wr.cell? ⟨w.heap.size + 1, 1, none⟩ = some (.int .i32 (lettered s[i].toNat).char) := Wk.blk_cell hb1 1
  have cf1 : wr.frozen? ⟨w.heap.size, 1, none⟩ = false := Wk.blk_frozen hb0 1
  have df1 : wr.frozen? ⟨w.heap.size + 1, 1, none⟩ = false := Wk.blk_frozen hb1 1
  have c2 : wr.cell? ⟨w.heap.size, 2, none⟩ = some (.bool false) := Wk.blk_cell hb0 2
  have d2 : wr.cell? ⟨w.heap.size + 1, 2, none⟩ = some (.bool (lettered s[i].toNat).ctrl) := Wk.blk_cell hb1 2
  have cf2 : wr.frozen? ⟨w.heap.size, 2, none⟩ = false := Wk.blk_frozen hb0 2
  have df2 : wr.frozen? ⟨w.heap.size + 1, 2, none⟩ = false := Wk.blk_frozen hb1 2
  have c3 : wr.cell? ⟨w.heap.size, 3, none⟩ = some (.bool false) := Wk.blk_cell hb0 3
  have d3 : wr.cell? ⟨w.heap.size + 1, 3, none⟩ = some (.bool (lettered s[i].toNat).mt) := Wk.blk_cell hb1 3
  have cf3 : wr.frozen? ⟨w.heap.size, 3, none⟩ = false := Wk.blk_frozen hb0 3
  have df3 : wr.frozen? ⟨w.heap.size + 1, 3, none⟩ = false := Wk.blk_frozen hb1 3
  have c4 : wr.cell? ⟨w.heap.size, 4, none⟩ = some (.bool false) := Wk.blk_cell hb0 4
  have d4 : wr.cell? ⟨w.heap.size + 1, 4, none⟩ = some (.bool (lettered s[i].toNat).shift) := Wk.blk_cell hb1 4
  have cf4 : wr.frozen? ⟨w.heap.size, 4, none⟩ = false := Wk.blk_frozen hb0 4
  have df4 : wr.frozen? ⟨w.heap.size + 1, 4, none⟩ = false := Wk.blk_frozen hb1 4
  have c5 : wr.cell? ⟨w.heap.size, 5, none⟩ = some (.string ⟨#[]⟩) := Wk.blk_cell hb0 5
  have d5 : wr.cell? ⟨w.heap.size + 1, 5, none⟩ = some (.string ⟨(lettered s[i].toNat).text.toArray⟩) := Wk.blk_cell hb1 5
  have cf5 : wr.frozen? ⟨w.heap.size, 5, none⟩ = false := Wk.blk_frozen hb0 5
  have df5 : wr.frozen? ⟨w.heap.size + 1, 5, none⟩ = false := Wk.blk_frozen hb1 5
  have lt0 := lt_blk hb0
  clear hb0 hb1 hb hc' hf hz'
  go_wp2_with (go_at_call 74; (with_reducible refine (unknown_calls _ _ hys).mono ?_); rintro e wy ⟨rfl, hb2⟩; obtain ⟨hcd, hf2⟩ := bcell hb2; have hy' := lt_next lt0 hb2; unfold knV keyV)
  exact bodyPost_ret (v := knV (unknown (s.data.toList.take (i + 1)))) (by simp [results, Tryd.results75, go_sem, hcd, hy', lt0, c0, c1, c2, c3, c4, c5, knV, keyV]) rfl ⟨ret_p H.out, bel6 (bel_call hbel.out hb2) (Nat.le_refl _)⟩
set_option maxHeartbeats 4000000 in
set_option maxRecDepth 100000 in
theorem m_4_t5 (s : ByteArray) (i : Nat) (last : Bool) (h2 : 2 ≤ i) (hi : i < s.size) (hs : s.size ≤ 1000000000) (w : World) (HT : Hid (Tb w)) (A B : ByteArray) (hA : A.size ≤ 1000000000) (hB : B.size ≤ 1000000000) (hii : (i : Int) < s.size) (hi2 : (2 : Int) ≤ i) (hsi : (s.size : Int) ≤ 1000000000) (hxs : (s.extract 2 i).size ≤ 1000000000) (hys : (s.extract 0 (i + 1)).size ≤ 1000000000) (he8 : (s[i].toNat : Int) < 256) (he9 : s[i].toNat < 256) (HC : Hid (cut1 59 (s.extract 2 i).data.toList = (A.data.toList, B.data.toList, true))) (n m : Nat) (HM : Hid (num B.data.toList = some m)) (hm1 : (1 : Int) ≤ m) (hm8 : (m : Int) ≤ 8) (qm1 : decide ((m : Int) < 1) = false) (qm8 : decide ((8 : Int) < m) = false) (HN : Hid (num A.data.toList = some n)) (qe : ((s[i].toNat : Int) == 126) = false) (q1 : ((n : Int) == 1) = true) (qk : ((lettered s[i].toNat).kind == 0) = false) (qt : ((lettered s[i].toNat).kind == 15) = false) (x1 x2 x4 : Int) (E1 : bits .and .i64 ((m : Int) - 1) 1 = x1) (E2 : bits .and .i64 ((m : Int) - 1) 2 = x2) (E4 : bits .and .i64 ((m : Int) - 1) 4 = x4) (b1 b2 b4 : Bool) (F1 : (x1 != 0) = b1) (F2 : (x2 != 0) = b2) (F4 : (x4 != 0) = b4) (H : Hid (meaning last s.data.toList i = ({ lettered s[i].toNat with shift := b1, mt := b2, ctrl := b4 }, i + 1))) :
    Calls Tryd.prog 75 #[.string s, .int .i64 i, .bool last] w fun e w' => e = .returned (knV (meaning last s.data.toList i)) ∧ Below w.heap.size w w' := by
  go_enter Tryd.func75, Tryd.ntmps75
  go_upto_region 22 with (first
    | (go_at_call 82; (with_reducible refine (cut_as HC.out _ hxs).mono ?_); rintro e wz ⟨rfl, nd, rfl⟩)
    | (go_at_call 83; (with_reducible refine (number_some HM.out hB _).mono ?_); rintro e wz ⟨rfl, rfl⟩)
    | (go_at_call 83; (with_reducible refine (number_some HN.out hA _).mono ?_); rintro e wz ⟨rfl, rfl⟩)
    | (go_at_call 57; (with_reducible refine (lettered_calls s[i].toNat he9 _).mono ?_); rintro e wz ⟨rfl, hb⟩; obtain ⟨hc', hf⟩ := bcell hb; have hz' := lt_alloc hb; unfold keyV))
  have HA := at22 (lettered s[i].toNat) hb
  revert HA
  generalize ((((((wz.setCell ⟨w.heap.size + 1, 0, none⟩ (.int .i64 (lettered s[i].toNat).kind)).setCell ⟨w.heap.size + 1, 1, none⟩ (.int .i32 (lettered s[i].toNat).char)).setCell ⟨w.heap.size + 1, 2, none⟩ (.bool (lettered s[i].toNat).ctrl)).setCell ⟨w.heap.size + 1, 3, none⟩ (.bool (lettered s[i].toNat).mt)).setCell ⟨w.heap.size + 1, 4, none⟩ (.bool (lettered s[i].toNat).shift)).setCell ⟨w.heap.size + 1, 5, none⟩ (.string ⟨(lettered s[i].toNat).text.toArray⟩)) = wr
  intro HA
  obtain ⟨hb0, hb1, hbel⟩ := HA
  have hbel := Lib.hid hbel
  have c0 : wr.cell? ⟨w.heap.size, 0, none⟩ = some (.int .i64 0) := Wk.blk_cell hb0 0
  have d0 : wr.cell? ⟨w.heap.size + 1, 0, none⟩ = some (.int .i64 (lettered s[i].toNat).kind) := Wk.blk_cell hb1 0
  have cf0 : wr.frozen? ⟨w.heap.size, 0, none⟩ = false := Wk.blk_frozen hb0 0
  have df0 : wr.frozen? ⟨w.heap.size + 1, 0, none⟩ = false := Wk.blk_frozen hb1 0
  have c1 : wr.cell? ⟨w.heap.size, 1, none⟩ = some (.int .i32 0) := Wk.blk_cell hb0 1
  have d1 : wr.cell? ⟨w.heap.size + 1, 1, none⟩ = some (.int .i32 (lettered s[i].toNat).char) := Wk.blk_cell hb1 1
  have cf1 : wr.frozen? ⟨w.heap.size, 1, none⟩ = false := Wk.blk_frozen hb0 1
  have df1 : wr.frozen? ⟨w.heap.size + 1, 1, none⟩ = false := Wk.blk_frozen hb1 1
  have c2 : wr.cell? ⟨w.heap.size, 2, none⟩ = some (.bool false) := Wk.blk_cell hb0 2
  have d2 : wr.cell? ⟨w.heap.size + 1, 2, none⟩ = some (.bool (lettered s[i].toNat).ctrl) := Wk.blk_cell hb1 2
  have cf2 : wr.frozen? ⟨w.heap.size, 2, none⟩ = false := Wk.blk_frozen hb0 2
  have df2 : wr.frozen? ⟨w.heap.size + 1, 2, none⟩ = false := Wk.blk_frozen hb1 2
  have c3 : wr.cell? ⟨w.heap.size, 3, none⟩ = some (.bool false) := Wk.blk_cell hb0 3
  have d3 : wr.cell? ⟨w.heap.size + 1, 3, none⟩ = some (.bool (lettered s[i].toNat).mt) := Wk.blk_cell hb1 3
  have cf3 : wr.frozen? ⟨w.heap.size, 3, none⟩ = false := Wk.blk_frozen hb0 3
  have df3 : wr.frozen? ⟨w.heap.size + 1, 3, none⟩ = false := Wk.blk_frozen hb1 3
  have c4 : wr.cell? ⟨w.heap.size, 4, none⟩ = some (.bool false) := Wk.blk_cell hb0 4
  have d4 : wr.cell? ⟨w.heap.size + 1, 4, none⟩ = some (.bool (lettered s[i].toNat).shift) := Wk.blk_cell hb1 4
  have cf4 : wr.frozen? ⟨w.heap.size, 4, none⟩ = false := Wk.blk_frozen hb0 4
  have df4 : wr.frozen? ⟨w.heap.size + 1, 4, none⟩ = false := Wk.blk_frozen hb1 4
  have c5 : wr.cell? ⟨w.heap.size, 5, none⟩ = some (.string ⟨#[]⟩) := Wk.blk_cell hb0 5
  have d5 : wr.cell? ⟨w.heap.size + 1, 5, none⟩ = some (.string ⟨(lettered s[i].toNat).text.toArray⟩) := Wk.blk_cell hb1 5
  have cf5 : wr.frozen? ⟨w.heap.size, 5, none⟩ = false := Wk.blk_frozen hb0 5
  have df5 : wr.frozen? ⟨w.heap.size + 1, 5, none⟩ = false := Wk.blk_frozen hb1 5
  have lt0 := lt_blk hb0
  clear hb0 hb1 hb hc' hf hz'
  go_wp2
  exact bodyPost_ret (v := .tuple #[keyV { lettered s[i].toNat with shift := b1, mt := b2, ctrl := b4 }, .int .i64 (i + 1 : Nat)]) (by simp [results, Tryd.results75, go_sem, c0, c1, c2, c3, c4, c5, keyV]) rfl ⟨ret_p H.out, bel6 (bel_set (bel_set (bel_set hbel.out (Nat.le_succ _) _) (Nat.le_succ _) _) (Nat.le_succ _) _) (Nat.le_refl _)⟩
set_option maxHeartbeats 4000000 in
set_option maxRecDepth 100000 in
theorem m_4_t5z (s : ByteArray) (i : Nat) (last : Bool) (h2 : 2 ≤ i) (hi : i < s.size) (hs : s.size ≤ 1000000000) (w : World) (HT : Hid (Tb w)) (A B : ByteArray) (hA : A.size ≤ 1000000000) (hB : B.size ≤ 1000000000) (hii : (i : Int) < s.size) (hi2 : (2 : Int) ≤ i) (hsi : (s.size : Int) ≤ 1000000000) (hxs : (s.extract 2 i).size ≤ 1000000000) (hys : (s.extract 0 (i + 1)).size ≤ 1000000000) (he8 : (s[i].toNat : Int) < 256) (he9 : s[i].toNat < 256) (HC : Hid (cut1 59 (s.extract 2 i).data.toList = (A.data.toList, B.data.toList, true))) (n m : Nat) (HM : Hid (num B.data.toList = some m)) (hm1 : (1 : Int) ≤ m) (hm8 : (m : Int) ≤ 8) (qm1 : decide ((m : Int) < 1) = false) (qm8 : decide ((8 : Int) < m) = false) (HN : Hid (num A.data.toList = some n)) (qe : ((s[i].toNat : Int) == 126) = false) (q1 : ((n : Int) == 1) = true) (qk : ((lettered s[i].toNat).kind == 0) = false) (qt : ((lettered s[i].toNat).kind == 15) = true) (x1 x2 x4 : Int) (E1 : bits .and .i64 ((m : Int) - 1) 1 = x1) (E2 : bits .and .i64 ((m : Int) - 1) 2 = x2) (E4 : bits .and .i64 ((m : Int) - 1) 4 = x4) (b1 b2 b4 : Bool) (F1 : (x1 != 0) = b1) (F2 : (x2 != 0) = b2) (F4 : (x4 != 0) = b4) (H : Hid (meaning last s.data.toList i = ({ lettered s[i].toNat with shift := true, mt := b2, ctrl := b4 }, i + 1))) :
    Calls Tryd.prog 75 #[.string s, .int .i64 i, .bool last] w fun e w' => e = .returned (knV (meaning last s.data.toList i)) ∧ Below w.heap.size w w' := by
  go_enter Tryd.func75, Tryd.ntmps75
  go_upto_region 22 with (first
    | (go_at_call 82; (with_reducible refine (cut_as HC.out _ hxs).mono ?_); rintro e wz ⟨rfl, nd, rfl⟩)
    | (go_at_call 83; (with_reducible refine (number_some HM.out hB _).mono ?_); rintro e wz ⟨rfl, rfl⟩)
    | (go_at_call 83; (with_reducible refine (number_some HN.out hA _).mono ?_); rintro e wz ⟨rfl, rfl⟩)
    | (go_at_call 57; (with_reducible refine (lettered_calls s[i].toNat he9 _).mono ?_); rintro e wz ⟨rfl, hb⟩; obtain ⟨hc', hf⟩ := bcell hb; have hz' := lt_alloc hb; unfold keyV))
  have HA := at22 (lettered s[i].toNat) hb
  revert HA
  generalize ((((((wz.setCell ⟨w.heap.size + 1, 0, none⟩ (.int .i64 (lettered s[i].toNat).kind)).setCell ⟨w.heap.size + 1, 1, none⟩ (.int .i32 (lettered s[i].toNat).char)).setCell ⟨w.heap.size + 1, 2, none⟩ (.bool (lettered s[i].toNat).ctrl)).setCell ⟨w.heap.size + 1, 3, none⟩ (.bool (lettered s[i].toNat).mt)).setCell ⟨w.heap.size + 1, 4, none⟩ (.bool (lettered s[i].toNat).shift)).setCell ⟨w.heap.size + 1, 5, none⟩ (.string ⟨(lettered s[i].toNat).text.toArray⟩)) = wr
  intro HA
  obtain ⟨hb0, hb1, hbel⟩ := HA
  have hbel := Lib.hid hbel
  have c0 : wr.cell? ⟨w.heap.size, 0, none⟩ = some (.int .i64 0) := Wk.blk_cell hb0 0
  have d0 : wr.cell? ⟨w.heap.size + 1, 0, none⟩ = some (.int .i64 (lettered s[i].toNat).kind) := Wk.blk_cell hb1 0
  have cf0 : wr.frozen? ⟨w.heap.size, 0, none⟩ = false := Wk.blk_frozen hb0 0
  have df0 : wr.frozen? ⟨w.heap.size + 1, 0, none⟩ = false := Wk.blk_frozen hb1 0
  have c1 : wr.cell? ⟨w.heap.size, 1, none⟩ = some (.int .i32 0) := Wk.blk_cell hb0 1
  have d1 : wr.cell? ⟨w.heap.size + 1, 1, none⟩ = some (.int .i32 (lettered s[i].toNat).char) := Wk.blk_cell hb1 1
  have cf1 : wr.frozen? ⟨w.heap.size, 1, none⟩ = false := Wk.blk_frozen hb0 1
  have df1 : wr.frozen? ⟨w.heap.size + 1, 1, none⟩ = false := Wk.blk_frozen hb1 1
  have c2 : wr.cell? ⟨w.heap.size, 2, none⟩ = some (.bool false) := Wk.blk_cell hb0 2
  have d2 : wr.cell? ⟨w.heap.size + 1, 2, none⟩ = some (.bool (lettered s[i].toNat).ctrl) := Wk.blk_cell hb1 2
  have cf2 : wr.frozen? ⟨w.heap.size, 2, none⟩ = false := Wk.blk_frozen hb0 2
  have df2 : wr.frozen? ⟨w.heap.size + 1, 2, none⟩ = false := Wk.blk_frozen hb1 2
  have c3 : wr.cell? ⟨w.heap.size, 3, none⟩ = some (.bool false) := Wk.blk_cell hb0 3
  have d3 : wr.cell? ⟨w.heap.size + 1, 3, none⟩ = some (.bool (lettered s[i].toNat).mt) := Wk.blk_cell hb1 3
  have cf3 : wr.frozen? ⟨w.heap.size, 3, none⟩ = false := Wk.blk_frozen hb0 3
  have df3 : wr.frozen? ⟨w.heap.size + 1, 3, none⟩ = false := Wk.blk_frozen hb1 3
  have c4 : wr.cell? ⟨w.heap.size, 4, none⟩ = some (.bool false) := Wk.blk_cell hb0 4
  have d4 : wr.cell? ⟨w.heap.size + 1, 4, none⟩ = some (.bool (lettered s[i].toNat).shift) := Wk.blk_cell hb1 4
  have cf4 : wr.frozen? ⟨w.heap.size, 4, none⟩ = false := Wk.blk_frozen hb0 4
  have df4 : wr.frozen? ⟨w.heap.size + 1, 4, none⟩ = false := Wk.blk_frozen hb1 4
  have c5 : wr.cell? ⟨w.heap.size, 5, none⟩ = some (.string ⟨#[]⟩) := Wk.blk_cell hb0 5
  have d5 : wr.cell? ⟨w.heap.size + 1, 5, none⟩ = some (.string ⟨(lettered s[i].toNat).text.toArray⟩) := Wk.blk_cell hb1 5
  have cf5 : wr.frozen? ⟨w.heap.size, 5, none⟩ = false := Wk.blk_frozen hb0 5
  have df5 : wr.frozen? ⟨w.heap.size + 1, 5, none⟩ = false := Wk.blk_frozen hb1 5
  have lt0 := lt_blk hb0
  clear hb0 hb1 hb hc' hf hz'
  go_wp2
  exact bodyPost_ret (v := .tuple #[keyV { lettered s[i].toNat with shift := true, mt := b2, ctrl := b4 }, .int .i64 (i + 1 : Nat)]) (by simp [results, Tryd.results75, go_sem, c0, c1, c2, c3, c4, c5, keyV]) rfl ⟨ret_p H.out, bel6 (bel_set (bel_set (bel_set hbel.out (Nat.le_succ _) _) (Nat.le_succ _) _) (Nat.le_succ _) _) (Nat.le_refl _)⟩
set_option maxHeartbeats 4000000 in
set_option maxRecDepth 100000 in
theorem m_7_t2 (s : ByteArray) (i : Nat) (last : Bool) (h2 : 2 ≤ i) (hi : i < s.size) (hs : s.size ≤ 1000000000) (w : World) (HT : Hid (Tb w)) (A B : ByteArray) (hA : A.size ≤ 1000000000) (hB : B.size ≤ 1000000000) (hii : (i : Int) < s.size) (hi2 : (2 : Int) ≤ i) (hsi : (s.size : Int) ≤ 1000000000) (hxs : (s.extract 2 i).size ≤ 1000000000) (hys : (s.extract 0 (i + 1)).size ≤ 1000000000) (he8 : (s[i].toNat : Int) < 256) (he9 : s[i].toNat < 256) (HC : Hid (cut1 59 (s.extract 2 i).data.toList = (A.data.toList, B.data.toList, false))) (qa : A.toList.isEmpty = false) (qa2 : (!A.toList.isEmpty) = true) (qa3 : ¬ A.toList = []) (n : Nat) (HN : Hid (num A.data.toList = some n)) (qe : ((s[i].toNat : Int) == 126) = true) (qn : ((n : Int) == 200) = false) (qk : ((numbered (n : Int)).kind == 0) = true) (H : Hid (meaning last s.data.toList i = unknown (s.data.toList.take (i + 1)))) :
    Calls Tryd.prog 75 #[.string s, .int .i64 i, .bool last] w fun e w' => e = .returned (knV (meaning last s.data.toList i)) ∧ Below w.heap.size w w' := by
  go_enter Tryd.func75, Tryd.ntmps75
  go_upto_region 19 with (first
    | (go_at_call 82; (with_reducible refine (cut_as HC.out _ hxs).mono ?_); rintro e wz ⟨rfl, nd, rfl⟩)
    | (go_at_call 83; (with_reducible refine (number_some HN.out hA _).mono ?_); rintro e wz ⟨rfl, rfl⟩)
    | (go_at_call 58; (with_reducible refine (numbered_calls n _).mono ?_); rintro e wz ⟨rfl, hb⟩; obtain ⟨hc', hf⟩ := bcell hb; have hz' := lt_alloc hb; unfold keyV))
  have HA := at22 (numbered (n : Int)) hb
  revert HA
  generalize ((((((wz.setCell ⟨w.heap.size + 1, 0, none⟩ (.int .i64 (numbered (n : Int)).kind)).setCell ⟨w.heap.size + 1, 1, none⟩ (.int .i32 (numbered (n : Int)).char)).setCell ⟨w.heap.size + 1, 2, none⟩ (.bool (numbered (n : Int)).ctrl)).setCell ⟨w.heap.size + 1, 3, none⟩ (.bool (numbered (n : Int)).mt)).setCell ⟨w.heap.size + 1, 4, none⟩ (.bool (numbered (n : Int)).shift)).setCell ⟨w.heap.size + 1, 5, none⟩ (.string ⟨(numbered (n : Int)).text.toArray⟩)) = wr
  intro HA
  obtain ⟨hb0, hb1, hbel⟩ := HA
  have hbel := Lib.hid hbel
  have c0 : wr.cell? ⟨w.heap.size, 0, none⟩ = some (.int .i64 0) := Wk.blk_cell hb0 0
  have d0 : wr.cell? ⟨w.heap.size + 1, 0, none⟩ = some (.int .i64 (numbered (n : Int)).kind) := Wk.blk_cell hb1 0
  have cf0 : wr.frozen? ⟨w.heap.size, 0, none⟩ = false := Wk.blk_frozen hb0 0
  have df0 : wr.frozen? ⟨w.heap.size + 1, 0, none⟩ = false := Wk.blk_frozen hb1 0
  have c1 : wr.cell? ⟨w.heap.size, 1, none⟩ = some (.int .i32 0) := Wk.blk_cell hb0 1
  have d1 : wr.cell? ⟨w.heap.size + 1, 1, none⟩ = some (.int .i32 (numbered (n : Int)).char) := Wk.blk_cell hb1 1
  have cf1 : wr.frozen? ⟨w.heap.size, 1, none⟩ = false := Wk.blk_frozen hb0 1
  have df1 : wr.frozen? ⟨w.heap.size + 1, 1, none⟩ = false := Wk.blk_frozen hb1 1
  have c2 : wr.cell? ⟨w.heap.size, 2, none⟩ = some (.bool false) := Wk.blk_cell hb0 2
  have d2 : wr.cell? ⟨w.heap.size + 1, 2, none⟩ = some (.bool (numbered (n : Int)).ctrl) := Wk.blk_cell hb1 2
  have cf2 : wr.frozen? ⟨w.heap.size, 2, none⟩ = false := Wk.blk_frozen hb0 2
  have df2 : wr.frozen? ⟨w.heap.size + 1, 2, none⟩ = false := Wk.blk_frozen hb1 2
  have c3 : wr.cell? ⟨w.heap.size, 3, none⟩ = some (.bool false) := Wk.blk_cell hb0 3
  have d3 : wr.cell? ⟨w.heap.size + 1, 3, none⟩ = some (.bool (numbered (n : Int)).mt) := Wk.blk_cell hb1 3
  have cf3 : wr.frozen? ⟨w.heap.size, 3, none⟩ = false := Wk.blk_frozen hb0 3
  have df3 : wr.frozen? ⟨w.heap.size + 1, 3, none⟩ = false := Wk.blk_frozen hb1 3
  have c4 : wr.cell? ⟨w.heap.size, 4, none⟩ = some (.bool false) := Wk.blk_cell hb0 4
  have d4 : wr.cell? ⟨w.heap.size + 1, 4, none⟩ = some (.bool (numbered (n : Int)).shift) := Wk.blk_cell hb1 4
  have cf4 : wr.frozen? ⟨w.heap.size, 4, none⟩ = false := Wk.blk_frozen hb0 4
  have df4 : wr.frozen? ⟨w.heap.size + 1, 4, none⟩ = false := Wk.blk_frozen hb1 4
  have c5 : wr.cell? ⟨w.heap.size, 5, none⟩ = some (.string ⟨#[]⟩) := Wk.blk_cell hb0 5
  have d5 : wr.cell? ⟨w.heap.size + 1, 5, none⟩ = some (.string ⟨(numbered (n : Int)).text.toArray⟩) := Wk.blk_cell hb1 5
  have cf5 : wr.frozen? ⟨w.heap.size, 5, none⟩ = false := Wk.blk_frozen hb0 5
  have df5 : wr.frozen? ⟨w.heap.size + 1, 5, none⟩ = false := Wk.blk_frozen hb1 5
  have lt0 := lt_blk hb0
  clear hb0 hb1 hb hc' hf hz'
  go_wp2_with (go_at_call 74; (with_reducible refine (unknown_calls _ _ hys).mono ?_); rintro e wy ⟨rfl, hb2⟩; obtain ⟨hcd, hf2⟩ := bcell hb2; have hy' := lt_next lt0 hb2; unfold knV keyV)
  exact bodyPost_ret (v := knV (unknown (s.data.toList.take (i + 1)))) (by simp [results, Tryd.results75, go_sem, hcd, hy', lt0, c0, c1, c2, c3, c4, c5, knV, keyV]) rfl ⟨ret_p H.out, bel6 (bel_call hbel.out hb2) (Nat.le_refl _)⟩
set_option maxHeartbeats 4000000 in
set_option maxRecDepth 100000 in
theorem m_7_t3 (s : ByteArray) (i : Nat) (last : Bool) (h2 : 2 ≤ i) (hi : i < s.size) (hs : s.size ≤ 1000000000) (w : World) (HT : Hid (Tb w)) (A B : ByteArray) (hA : A.size ≤ 1000000000) (hB : B.size ≤ 1000000000) (hii : (i : Int) < s.size) (hi2 : (2 : Int) ≤ i) (hsi : (s.size : Int) ≤ 1000000000) (hxs : (s.extract 2 i).size ≤ 1000000000) (hys : (s.extract 0 (i + 1)).size ≤ 1000000000) (he8 : (s[i].toNat : Int) < 256) (he9 : s[i].toNat < 256) (HC : Hid (cut1 59 (s.extract 2 i).data.toList = (A.data.toList, B.data.toList, false))) (qa : A.toList.isEmpty = false) (qa2 : (!A.toList.isEmpty) = true) (qa3 : ¬ A.toList = []) (n : Nat) (HN : Hid (num A.data.toList = some n)) (qe : ((s[i].toNat : Int) == 126) = true) (qn : ((n : Int) == 200) = false) (qk : ((numbered (n : Int)).kind == 0) = false) (qt : ((numbered (n : Int)).kind == 15) = false) (x1 x2 x4 : Int) (E1 : bits .and .i64 0 1 = x1) (E2 : bits .and .i64 0 2 = x2) (E4 : bits .and .i64 0 4 = x4) (b1 b2 b4 : Bool) (F1 : (x1 != 0) = b1) (F2 : (x2 != 0) = b2) (F4 : (x4 != 0) = b4) (H : Hid (meaning last s.data.toList i = ({ numbered (n : Int) with shift := b1, mt := b2, ctrl := b4 }, i + 1))) :
    Calls Tryd.prog 75 #[.string s, .int .i64 i, .bool last] w fun e w' => e = .returned (knV (meaning last s.data.toList i)) ∧ Below w.heap.size w w' := by
  go_enter Tryd.func75, Tryd.ntmps75
  go_upto_region 22 with (first
    | (go_at_call 82; (with_reducible refine (cut_as HC.out _ hxs).mono ?_); rintro e wz ⟨rfl, nd, rfl⟩)
    | (go_at_call 83; (with_reducible refine (number_some HN.out hA _).mono ?_); rintro e wz ⟨rfl, rfl⟩)
    | (go_at_call 58; (with_reducible refine (numbered_calls n _).mono ?_); rintro e wz ⟨rfl, hb⟩; obtain ⟨hc', hf⟩ := bcell hb; have hz' := lt_alloc hb; unfold keyV))
  have HA := at22 (numbered (n : Int)) hb
  revert HA
  generalize ((((((wz.setCell ⟨w.heap.size + 1, 0, none⟩ (.int .i64 (numbered (n : Int)).kind)).setCell ⟨w.heap.size + 1, 1, none⟩ (.int .i32 (numbered (n : Int)).char)).setCell ⟨w.heap.size + 1, 2, none⟩ (.bool (numbered (n : Int)).ctrl)).setCell ⟨w.heap.size + 1, 3, none⟩ (.bool (numbered (n : Int)).mt)).setCell ⟨w.heap.size + 1, 4, none⟩ (.bool (numbered (n : Int)).shift)).setCell ⟨w.heap.size + 1, 5, none⟩ (.string ⟨(numbered (n : Int)).text.toArray⟩)) = wr
  intro HA
  obtain ⟨hb0, hb1, hbel⟩ := HA
  have hbel := Lib.hid hbel
  have c0 : wr.cell? ⟨w.heap.size, 0, none⟩ = some (.int .i64 0) := Wk.blk_cell hb0 0
  have d0 : wr.cell? ⟨w.heap.size + 1, 0, none⟩ = some (.int .i64 (numbered (n : Int)).kind) := Wk.blk_cell hb1 0
  have cf0 : wr.frozen? ⟨w.heap.size, 0, none⟩ = false := Wk.blk_frozen hb0 0
  have df0 : wr.frozen? ⟨w.heap.size + 1, 0, none⟩ = false := Wk.blk_frozen hb1 0
  have c1 : wr.cell? ⟨w.heap.size, 1, none⟩ = some (.int .i32 0) := Wk.blk_cell hb0 1
  have d1 : wr.cell? ⟨w.heap.size + 1, 1, none⟩ = some (.int .i32 (numbered (n : Int)).char) := Wk.blk_cell hb1 1
  have cf1 : wr.frozen? ⟨w.heap.size, 1, none⟩ = false := Wk.blk_frozen hb0 1
  have df1 : wr.frozen? ⟨w.heap.size + 1, 1, none⟩ = false := Wk.blk_frozen hb1 1
  have c2 : wr.cell? ⟨w.heap.size, 2, none⟩ = some (.bool false) := Wk.blk_cell hb0 2
  have d2 : wr.cell? ⟨w.heap.size + 1, 2, none⟩ = some (.bool (numbered (n : Int)).ctrl) := Wk.blk_cell hb1 2
  have cf2 : wr.frozen? ⟨w.heap.size, 2, none⟩ = false := Wk.blk_frozen hb0 2
  have df2 : wr.frozen? ⟨w.heap.size + 1, 2, none⟩ = false := Wk.blk_frozen hb1 2
  have c3 : wr.cell? ⟨w.heap.size, 3, none⟩ = some (.bool false) := Wk.blk_cell hb0 3
  have d3 : wr.cell? ⟨w.heap.size + 1, 3, none⟩ = some (.bool (numbered (n : Int)).mt) := Wk.blk_cell hb1 3
  have cf3 : wr.frozen? ⟨w.heap.size, 3, none⟩ = false := Wk.blk_frozen hb0 3
  have df3 : wr.frozen? ⟨w.heap.size + 1, 3, none⟩ = false := Wk.blk_frozen hb1 3
  have c4 : wr.cell? ⟨w.heap.size, 4, none⟩ = some (.bool false) := Wk.blk_cell hb0 4
  have d4 : wr.cell? ⟨w.heap.size + 1, 4, none⟩ = some (.bool (numbered (n : Int)).shift) := Wk.blk_cell hb1 4
  have cf4 : wr.frozen? ⟨w.heap.size, 4, none⟩ = false := Wk.blk_frozen hb0 4
  have df4 : wr.frozen? ⟨w.heap.size + 1, 4, none⟩ = false := Wk.blk_frozen hb1 4
  have c5 : wr.cell? ⟨w.heap.size, 5, none⟩ = some (.string ⟨#[]⟩) := Wk.blk_cell hb0 5
  have d5 : wr.cell? ⟨w.heap.size + 1, 5, none⟩ = some (.string ⟨(numbered (n : Int)).text.toArray⟩) := Wk.blk_cell hb1 5
  have cf5 : wr.frozen? ⟨w.heap.size, 5, none⟩ = false := Wk.blk_frozen hb0 5
  have df5 : wr.frozen? ⟨w.heap.size + 1, 5, none⟩ = false := Wk.blk_frozen hb1 5
  have lt0 := lt_blk hb0
  clear hb0 hb1 hb hc' hf hz'
  go_wp2
  exact bodyPost_ret (v := .tuple #[keyV { numbered (n : Int) with shift := b1, mt := b2, ctrl := b4 }, .int .i64 (i + 1 : Nat)]) (by simp [results, Tryd.results75, go_sem, c0, c1, c2, c3, c4, c5, keyV]) rfl ⟨ret_p H.out, bel6 (bel_set (bel_set (bel_set hbel.out (Nat.le_succ _) _) (Nat.le_succ _) _) (Nat.le_succ _) _) (Nat.le_refl _)⟩
set_option maxHeartbeats 4000000 in
set_option maxRecDepth 100000 in
theorem m_7_t6 (s : ByteArray) (i : Nat) (last : Bool) (h2 : 2 ≤ i) (hi : i < s.size) (hs : s.size ≤ 1000000000) (w : World) (HT : Hid (Tb w)) (A B : ByteArray) (hA : A.size ≤ 1000000000) (hB : B.size ≤ 1000000000) (hii : (i : Int) < s.size) (hi2 : (2 : Int) ≤ i) (hsi : (s.size : Int) ≤ 1000000000) (hxs : (s.extract 2 i).size ≤ 1000000000) (hys : (s.extract 0 (i + 1)).size ≤ 1000000000) (he8 : (s[i].toNat : Int) < 256) (he9 : s[i].toNat < 256) (HC : Hid (cut1 59 (s.extract 2 i).data.toList = (A.data.toList, B.data.toList, false))) (qa : A.toList.isEmpty = false) (qa2 : (!A.toList.isEmpty) = true) (qa3 : ¬ A.toList = []) (n : Nat) (HN : Hid (num A.data.toList = some n)) (qe : ((s[i].toNat : Int) == 126) = false) (q1 : ((n : Int) == 1) = false) (H : Hid (meaning last s.data.toList i = unknown (s.data.toList.take (i + 1)))) :
    Calls Tryd.prog 75 #[.string s, .int .i64 i, .bool last] w fun e w' => e = .returned (knV (meaning last s.data.toList i)) ∧ Below w.heap.size w w' := by
  go_enter Tryd.func75, Tryd.ntmps75
  go_upto_region 19 with (first
    | (go_at_call 82; (with_reducible refine (cut_as HC.out _ hxs).mono ?_); rintro e wz ⟨rfl, nd, rfl⟩)
    | (go_at_call 83; (with_reducible refine (number_some HN.out hA _).mono ?_); rintro e wz ⟨rfl, rfl⟩))
  have HA := at22z (w := w) (nd := nd)
  revert HA
  generalize (((w.alloc (.cells #[.int .i64 0, .int .i32 0, .bool false, .bool false, .bool false, .string ⟨#[]⟩] 50)).drewN nd).alloc (.cells #[.int .i64 0, .int .i32 0, .bool false, .bool false, .bool false, .string ⟨#[]⟩] 50)) = wr
  intro HA
  obtain ⟨hb0, hb1, hbel⟩ := HA
  have hbel := Lib.hid hbel
  have c0 : wr.cell? ⟨w.heap.size, 0, none⟩ = some (.int .i64 0) := Wk.blk_cell hb0 0
  have d0 : wr.cell? ⟨w.heap.size + 1, 0, none⟩ = some (.int .i64 0) := Wk.blk_cell hb1 0
  have cf0 : wr.frozen? ⟨w.heap.size, 0, none⟩ = false := Wk.blk_frozen hb0 0
  have df0 : wr.frozen? ⟨w.heap.size + 1, 0, none⟩ = false := Wk.blk_frozen hb1 0
  have c1 : wr.cell? ⟨w.heap.size, 1, none⟩ = some (.int .i32 0) := Wk.blk_cell hb0 1
  have d1 : wr.cell? ⟨w.heap.size + 1, 1, none⟩ = some (.int .i32 0) := Wk.blk_cell hb1 1
  have cf1 : wr.frozen? ⟨w.heap.size, 1, none⟩ = false := Wk.blk_frozen hb0 1
  have df1 : wr.frozen? ⟨w.heap.size + 1, 1, none⟩ = false := Wk.blk_frozen hb1 1
  have c2 : wr.cell? ⟨w.heap.size, 2, none⟩ = some (.bool false) := Wk.blk_cell hb0 2
  have d2 : wr.cell? ⟨w.heap.size + 1, 2, none⟩ = some (.bool false) := Wk.blk_cell hb1 2
  have cf2 : wr.frozen? ⟨w.heap.size, 2, none⟩ = false := Wk.blk_frozen hb0 2
  have df2 : wr.frozen? ⟨w.heap.size + 1, 2, none⟩ = false := Wk.blk_frozen hb1 2
  have c3 : wr.cell? ⟨w.heap.size, 3, none⟩ = some (.bool false) := Wk.blk_cell hb0 3
  have d3 : wr.cell? ⟨w.heap.size + 1, 3, none⟩ = some (.bool false) := Wk.blk_cell hb1 3
  have cf3 : wr.frozen? ⟨w.heap.size, 3, none⟩ = false := Wk.blk_frozen hb0 3
  have df3 : wr.frozen? ⟨w.heap.size + 1, 3, none⟩ = false := Wk.blk_frozen hb1 3
  have c4 : wr.cell? ⟨w.heap.size, 4, none⟩ = some (.bool false) := Wk.blk_cell hb0 4
  have d4 : wr.cell? ⟨w.heap.size + 1, 4, none⟩ = some (.bool false) := Wk.blk_cell hb1 4
  have cf4 : wr.frozen? ⟨w.heap.size, 4, none⟩ = false := Wk.blk_frozen hb0 4
  have df4 : wr.frozen? ⟨w.heap.size + 1, 4, none⟩ = false := Wk.blk_frozen hb1 4
  have c5 : wr.cell? ⟨w.heap.size, 5, none⟩ = some (.string ⟨#[]⟩) := Wk.blk_cell hb0 5
  have d5 : wr.cell? ⟨w.heap.size + 1, 5, none⟩ = some (.string ⟨#[]⟩) := Wk.blk_cell hb1 5
  have cf5 : wr.frozen? ⟨w.heap.size, 5, none⟩ = false := Wk.blk_frozen hb0 5
  have df5 : wr.frozen? ⟨w.heap.size + 1, 5, none⟩ = false := Wk.blk_frozen hb1 5
  have lt0 := lt_blk hb0
  clear hb0 hb1
  go_wp2_with (go_at_call 74; (with_reducible refine (unknown_calls _ _ hys).mono ?_); rintro e wy ⟨rfl, hb2⟩; obtain ⟨hcd, hf2⟩ := bcell hb2; have hy' := lt_next lt0 hb2; unfold knV keyV)
  exact bodyPost_ret (v := knV (unknown (s.data.toList.take (i + 1)))) (by simp [results, Tryd.results75, go_sem, hcd, hy', lt0, c0, c1, c2, c3, c4, c5, knV, keyV]) rfl ⟨ret_p H.out, bel6 (bel_call hbel.out hb2) (Nat.le_refl _)⟩
set_option maxHeartbeats 4000000 in
set_option maxRecDepth 100000 in
theorem m_7_t4 (s : ByteArray) (i : Nat) (last : Bool) (h2 : 2 ≤ i) (hi : i < s.size) (hs : s.size ≤ 1000000000) (w : World) (HT : Hid (Tb w)) (A B : ByteArray) (hA : A.size ≤ 1000000000) (hB : B.size ≤ 1000000000) (hii : (i : Int) < s.size) (hi2 : (2 : Int) ≤ i) (hsi : (s.size : Int) ≤ 1000000000) (hxs : (s.extract 2 i).size ≤ 1000000000) (hys : (s.extract 0 (i + 1)).size ≤ 1000000000) (he8 : (s[i].toNat : Int) < 256) (he9 : s[i].toNat < 256) (HC : Hid (cut1 59 (s.extract 2 i).data.toList = (A.data.toList, B.data.toList, false))) (qa : A.toList.isEmpty = false) (qa2 : (!A.toList.isEmpty) = true) (qa3 : ¬ A.toList = []) (n : Nat) (HN : Hid (num A.data.toList = some n)) (qe : ((s[i].toNat : Int) == 126) = false) (q1 : ((n : Int) == 1) = true) (qk : ((lettered s[i].toNat).kind == 0) = true) (H : Hid (meaning last s.data.toList i = unknown (s.data.toList.take (i + 1)))) :
    Calls Tryd.prog 75 #[.string s, .int .i64 i, .bool last] w fun e w' => e = .returned (knV (meaning last s.data.toList i)) ∧ Below w.heap.size w w' := by
  go_enter Tryd.func75, Tryd.ntmps75
  go_upto_region 19 with (first
    | (go_at_call 82; (with_reducible refine (cut_as HC.out _ hxs).mono ?_); rintro e wz ⟨rfl, nd, rfl⟩)
    | (go_at_call 83; (with_reducible refine (number_some HN.out hA _).mono ?_); rintro e wz ⟨rfl, rfl⟩)
    | (go_at_call 57; (with_reducible refine (lettered_calls s[i].toNat he9 _).mono ?_); rintro e wz ⟨rfl, hb⟩; obtain ⟨hc', hf⟩ := bcell hb; have hz' := lt_alloc hb; unfold keyV))
  have HA := at22 (lettered s[i].toNat) hb
  revert HA
  generalize ((((((wz.setCell ⟨w.heap.size + 1, 0, none⟩ (.int .i64 (lettered s[i].toNat).kind)).setCell ⟨w.heap.size + 1, 1, none⟩ (.int .i32 (lettered s[i].toNat).char)).setCell ⟨w.heap.size + 1, 2, none⟩ (.bool (lettered s[i].toNat).ctrl)).setCell ⟨w.heap.size + 1, 3, none⟩ (.bool (lettered s[i].toNat).mt)).setCell ⟨w.heap.size + 1, 4, none⟩ (.bool (lettered s[i].toNat).shift)).setCell ⟨w.heap.size + 1, 5, none⟩ (.string ⟨(lettered s[i].toNat).text.toArray⟩)) = wr
  intro HA
  obtain ⟨hb0, hb1, hbel⟩ := HA
  have hbel := Lib.hid hbel
  have c0 : wr.cell? ⟨w.heap.size, 0, none⟩ = some (.int .i64 0) := Wk.blk_cell hb0 0
  have d0 : wr.cell? ⟨w.heap.size + 1, 0, none⟩ = some (.int .i64 (lettered s[i].toNat).kind) := Wk.blk_cell hb1 0
  have cf0 : wr.frozen? ⟨w.heap.size, 0, none⟩ = false := Wk.blk_frozen hb0 0
  have df0 : wr.frozen? ⟨w.heap.size + 1, 0, none⟩ = false := Wk.blk_frozen hb1 0
  have c1 : wr.cell? ⟨w.heap.size, 1, none⟩ = some (.int .i32 0) := Wk.blk_cell hb0 1
  have d1 : wr.cell? ⟨w.heap.size + 1, 1, none⟩ = some (.int .i32 (lettered s[i].toNat).char) := Wk.blk_cell hb1 1
  have cf1 : wr.frozen? ⟨w.heap.size, 1, none⟩ = false := Wk.blk_frozen hb0 1
  have df1 : wr.frozen? ⟨w.heap.size + 1, 1, none⟩ = false := Wk.blk_frozen hb1 1
  have c2 : wr.cell? ⟨w.heap.size, 2, none⟩ = some (.bool false) := Wk.blk_cell hb0 2
  have d2 : wr.cell? ⟨w.heap.size + 1, 2, none⟩ = some (.bool (lettered s[i].toNat).ctrl) := Wk.blk_cell hb1 2
  have cf2 : wr.frozen? ⟨w.heap.size, 2, none⟩ = false := Wk.blk_frozen hb0 2
  have df2 : wr.frozen? ⟨w.heap.size + 1, 2, none⟩ = false := Wk.blk_frozen hb1 2
  have c3 : wr.cell? ⟨w.heap.size, 3, none⟩ = some (.bool false) := Wk.blk_cell hb0 3
  have d3 : wr.cell? ⟨w.heap.size + 1, 3, none⟩ = some (.bool (lettered s[i].toNat).mt) := Wk.blk_cell hb1 3
  have cf3 : wr.frozen? ⟨w.heap.size, 3, none⟩ = false := Wk.blk_frozen hb0 3
  have df3 : wr.frozen? ⟨w.heap.size + 1, 3, none⟩ = false := Wk.blk_frozen hb1 3
  have c4 : wr.cell? ⟨w.heap.size, 4, none⟩ = some (.bool false) := Wk.blk_cell hb0 4
  have d4 : wr.cell? ⟨w.heap.size + 1, 4, none⟩ = some (.bool (lettered s[i].toNat).shift) := Wk.blk_cell hb1 4
  have cf4 : wr.frozen? ⟨w.heap.size, 4, none⟩ = false := Wk.blk_frozen hb0 4
  have df4 : wr.frozen? ⟨w.heap.size + 1, 4, none⟩ = false := Wk.blk_frozen hb1 4
  have c5 : wr.cell? ⟨w.heap.size, 5, none⟩ = some (.string ⟨#[]⟩) := Wk.blk_cell hb0 5
  have d5 : wr.cell? ⟨w.heap.size + 1, 5, none⟩ = some (.string ⟨(lettered s[i].toNat).text.toArray⟩) := Wk.blk_cell hb1 5
  have cf5 : wr.frozen? ⟨w.heap.size, 5, none⟩ = false := Wk.blk_frozen hb0 5
  have df5 : wr.frozen? ⟨w.heap.size + 1, 5, none⟩ = false := Wk.blk_frozen hb1 5
  have lt0 := lt_blk hb0
  clear hb0 hb1 hb hc' hf hz'
  go_wp2_with (go_at_call 74; (with_reducible refine (unknown_calls _ _ hys).mono ?_); rintro e wy ⟨rfl, hb2⟩; obtain ⟨hcd, hf2⟩ := bcell hb2; have hy' := lt_next lt0 hb2; unfold knV keyV)
  exact bodyPost_ret (v := knV (unknown (s.data.toList.take (i + 1)))) (by simp [results, Tryd.results75, go_sem, hcd, hy', lt0, c0, c1, c2, c3, c4, c5, knV, keyV]) rfl ⟨ret_p H.out, bel6 (bel_call hbel.out hb2) (Nat.le_refl _)⟩
set_option maxHeartbeats 4000000 in
set_option maxRecDepth 100000 in
theorem m_7_t5 (s : ByteArray) (i : Nat) (last : Bool) (h2 : 2 ≤ i) (hi : i < s.size) (hs : s.size ≤ 1000000000) (w : World) (HT : Hid (Tb w)) (A B : ByteArray) (hA : A.size ≤ 1000000000) (hB : B.size ≤ 1000000000) (hii : (i : Int) < s.size) (hi2 : (2 : Int) ≤ i) (hsi : (s.size : Int) ≤ 1000000000) (hxs : (s.extract 2 i).size ≤ 1000000000) (hys : (s.extract 0 (i + 1)).size ≤ 1000000000) (he8 : (s[i].toNat : Int) < 256) (he9 : s[i].toNat < 256) (HC : Hid (cut1 59 (s.extract 2 i).data.toList = (A.data.toList, B.data.toList, false))) (qa : A.toList.isEmpty = false) (qa2 : (!A.toList.isEmpty) = true) (qa3 : ¬ A.toList = []) (n : Nat) (HN : Hid (num A.data.toList = some n)) (qe : ((s[i].toNat : Int) == 126) = false) (q1 : ((n : Int) == 1) = true) (qk : ((lettered s[i].toNat).kind == 0) = false) (qt : ((lettered s[i].toNat).kind == 15) = false) (x1 x2 x4 : Int) (E1 : bits .and .i64 0 1 = x1) (E2 : bits .and .i64 0 2 = x2) (E4 : bits .and .i64 0 4 = x4) (b1 b2 b4 : Bool) (F1 : (x1 != 0) = b1) (F2 : (x2 != 0) = b2) (F4 : (x4 != 0) = b4) (H : Hid (meaning last s.data.toList i = ({ lettered s[i].toNat with shift := b1, mt := b2, ctrl := b4 }, i + 1))) :
    Calls Tryd.prog 75 #[.string s, .int .i64 i, .bool last] w fun e w' => e = .returned (knV (meaning last s.data.toList i)) ∧ Below w.heap.size w w' := by
  go_enter Tryd.func75, Tryd.ntmps75
  go_upto_region 22 with (first
    | (go_at_call 82; (with_reducible refine (cut_as HC.out _ hxs).mono ?_); rintro e wz ⟨rfl, nd, rfl⟩)
    | (go_at_call 83; (with_reducible refine (number_some HN.out hA _).mono ?_); rintro e wz ⟨rfl, rfl⟩)
    | (go_at_call 57; (with_reducible refine (lettered_calls s[i].toNat he9 _).mono ?_); rintro e wz ⟨rfl, hb⟩; obtain ⟨hc', hf⟩ := bcell hb; have hz' := lt_alloc hb; unfold keyV))
  have HA := at22 (lettered s[i].toNat) hb
  revert HA
  generalize ((((((wz.setCell ⟨w.heap.size + 1, 0, none⟩ (.int .i64 (lettered s[i].toNat).kind)).setCell ⟨w.heap.size + 1, 1, none⟩ (.int .i32 (lettered s[i].toNat).char)).setCell ⟨w.heap.size + 1, 2, none⟩ (.bool (lettered s[i].toNat).ctrl)).setCell ⟨w.heap.size + 1, 3, none⟩ (.bool (lettered s[i].toNat).mt)).setCell ⟨w.heap.size + 1, 4, none⟩ (.bool (lettered s[i].toNat).shift)).setCell ⟨w.heap.size + 1, 5, none⟩ (.string ⟨(lettered s[i].toNat).text.toArray⟩)) = wr
  intro HA
  obtain ⟨hb0, hb1, hbel⟩ := HA
  have hbel := Lib.hid hbel
  have c0 : wr.cell? ⟨w.heap.size, 0, none⟩ = some (.int .i64 0) := Wk.blk_cell hb0 0
  have d0 : wr.cell? ⟨w.heap.size + 1, 0, none⟩ = some (.int .i64 (lettered s[i].toNat).kind) := Wk.blk_cell hb1 0
  have cf0 : wr.frozen? ⟨w.heap.size, 0, none⟩ = false := Wk.blk_frozen hb0 0
  have df0 : wr.frozen? ⟨w.heap.size + 1, 0, none⟩ = false := Wk.blk_frozen hb1 0
  have c1 : wr.cell? ⟨w.heap.size, 1, none⟩ = some (.int .i32 0) := Wk.blk_cell hb0 1
  have d1 : wr.cell? ⟨w.heap.size + 1, 1, none⟩ = some (.int .i32 (lettered s[i].toNat).char) := Wk.blk_cell hb1 1
  have cf1 : wr.frozen? ⟨w.heap.size, 1, none⟩ = false := Wk.blk_frozen hb0 1
  have df1 : wr.frozen? ⟨w.heap.size + 1, 1, none⟩ = false := Wk.blk_frozen hb1 1
  have c2 : wr.cell? ⟨w.heap.size, 2, none⟩ = some (.bool false) := Wk.blk_cell hb0 2
  have d2 : wr.cell? ⟨w.heap.size + 1, 2, none⟩ = some (.bool (lettered s[i].toNat).ctrl) := Wk.blk_cell hb1 2
  have cf2 : wr.frozen? ⟨w.heap.size, 2, none⟩ = false := Wk.blk_frozen hb0 2
  have df2 : wr.frozen? ⟨w.heap.size + 1, 2, none⟩ = false := Wk.blk_frozen hb1 2
  have c3 : wr.cell? ⟨w.heap.size, 3, none⟩ = some (.bool false) := Wk.blk_cell hb0 3
  have d3 : wr.cell? ⟨w.heap.size + 1, 3, none⟩ = some (.bool (lettered s[i].toNat).mt) := Wk.blk_cell hb1 3
  have cf3 : wr.frozen? ⟨w.heap.size, 3, none⟩ = false := Wk.blk_frozen hb0 3
  have df3 : wr.frozen? ⟨w.heap.size + 1, 3, none⟩ = false := Wk.blk_frozen hb1 3
  have c4 : wr.cell? ⟨w.heap.size, 4, none⟩ = some (.bool false) := Wk.blk_cell hb0 4
  have d4 : wr.cell? ⟨w.heap.size + 1, 4, none⟩ = some (.bool (lettered s[i].toNat).shift) := Wk.blk_cell hb1 4
  have cf4 : wr.frozen? ⟨w.heap.size, 4, none⟩ = false := Wk.blk_frozen hb0 4
  have df4 : wr.frozen? ⟨w.heap.size + 1, 4, none⟩ = false := Wk.blk_frozen hb1 4
  have c5 : wr.cell? ⟨w.heap.size, 5, none⟩ = some (.string ⟨#[]⟩) := Wk.blk_cell hb0 5
  have d5 : wr.cell? ⟨w.heap.size + 1, 5, none⟩ = some (.string ⟨(lettered s[i].toNat).text.toArray⟩) := Wk.blk_cell hb1 5
  have cf5 : wr.frozen? ⟨w.heap.size, 5, none⟩ = false := Wk.blk_frozen hb0 5
  have df5 : wr.frozen? ⟨w.heap.size + 1, 5, none⟩ = false := Wk.blk_frozen hb1 5
  have lt0 := lt_blk hb0
  clear hb0 hb1 hb hc' hf hz'
  go_wp2
  exact bodyPost_ret (v := .tuple #[keyV { lettered s[i].toNat with shift := b1, mt := b2, ctrl := b4 }, .int .i64 (i + 1 : Nat)]) (by simp [results, Tryd.results75, go_sem, c0, c1, c2, c3, c4, c5, keyV]) rfl ⟨ret_p H.out, bel6 (bel_set (bel_set (bel_set hbel.out (Nat.le_succ _) _) (Nat.le_succ _) _) (Nat.le_succ _) _) (Nat.le_refl _)⟩
set_option maxHeartbeats 4000000 in
set_option maxRecDepth 100000 in
theorem m_7_t5z (s : ByteArray) (i : Nat) (last : Bool) (h2 : 2 ≤ i) (hi : i < s.size) (hs : s.size ≤ 1000000000) (w : World) (HT : Hid (Tb w)) (A B : ByteArray) (hA : A.size ≤ 1000000000) (hB : B.size ≤ 1000000000) (hii : (i : Int) < s.size) (hi2 : (2 : Int) ≤ i) (hsi : (s.size : Int) ≤ 1000000000) (hxs : (s.extract 2 i).size ≤ 1000000000) (hys : (s.extract 0 (i + 1)).size ≤ 1000000000) (he8 : (s[i].toNat : Int) < 256) (he9 : s[i].toNat < 256) (HC : Hid (cut1 59 (s.extract 2 i).data.toList = (A.data.toList, B.data.toList, false))) (qa : A.toList.isEmpty = false) (qa2 : (!A.toList.isEmpty) = true) (qa3 : ¬ A.toList = []) (n : Nat) (HN : Hid (num A.data.toList = some n)) (qe : ((s[i].toNat : Int) == 126) = false) (q1 : ((n : Int) == 1) = true) (qk : ((lettered s[i].toNat).kind == 0) = false) (qt : ((lettered s[i].toNat).kind == 15) = true) (x1 x2 x4 : Int) (E1 : bits .and .i64 0 1 = x1) (E2 : bits .and .i64 0 2 = x2) (E4 : bits .and .i64 0 4 = x4) (b1 b2 b4 : Bool) (F1 : (x1 != 0) = b1) (F2 : (x2 != 0) = b2) (F4 : (x4 != 0) = b4) (H : Hid (meaning last s.data.toList i = ({ lettered s[i].toNat with shift := true, mt := b2, ctrl := b4 }, i + 1))) :
    Calls Tryd.prog 75 #[.string s, .int .i64 i, .bool last] w fun e w' => e = .returned (knV (meaning last s.data.toList i)) ∧ Below w.heap.size w w' := by
  go_enter Tryd.func75, Tryd.ntmps75
  go_upto_region 22 with (first
    | (go_at_call 82; (with_reducible refine (cut_as HC.out _ hxs).mono ?_); rintro e wz ⟨rfl, nd, rfl⟩)
    | (go_at_call 83; (with_reducible refine (number_some HN.out hA _).mono ?_); rintro e wz ⟨rfl, rfl⟩)
    | (go_at_call 57; (with_reducible refine (lettered_calls s[i].toNat he9 _).mono ?_); rintro e wz ⟨rfl, hb⟩; obtain ⟨hc', hf⟩ := bcell hb; have hz' := lt_alloc hb; unfold keyV))
  have HA := at22 (lettered s[i].toNat) hb
  revert HA
  generalize ((((((wz.setCell ⟨w.heap.size + 1, 0, none⟩ (.int .i64 (lettered s[i].toNat).kind)).setCell ⟨w.heap.size + 1, 1, none⟩ (.int .i32 (lettered s[i].toNat).char)).setCell ⟨w.heap.size + 1, 2, none⟩ (.bool (lettered s[i].toNat).ctrl)).setCell ⟨w.heap.size + 1, 3, none⟩ (.bool (lettered s[i].toNat).mt)).setCell ⟨w.heap.size + 1, 4, none⟩ (.bool (lettered s[i].toNat).shift)).setCell ⟨w.heap.size + 1, 5, none⟩ (.string ⟨(lettered s[i].toNat).text.toArray⟩)) = wr
  intro HA
  obtain ⟨hb0, hb1, hbel⟩ := HA
  have hbel := Lib.hid hbel
  have c0 : wr.cell? ⟨w.heap.size, 0, none⟩ = some (.int .i64 0) := Wk.blk_cell hb0 0
  have d0 : wr.cell? ⟨w.heap.size + 1, 0, none⟩ = some (.int .i64 (lettered s[i].toNat).kind) := Wk.blk_cell hb1 0
  have cf0 : wr.frozen? ⟨w.heap.size, 0, none⟩ = false := Wk.blk_frozen hb0 0
  have df0 : wr.frozen? ⟨w.heap.size + 1, 0, none⟩ = false := Wk.blk_frozen hb1 0
  have c1 : wr.cell? ⟨w.heap.size, 1, none⟩ = some (.int .i32 0) := Wk.blk_cell hb0 1
  have d1 : wr.cell? ⟨w.heap.size + 1, 1, none⟩ = some (.int .i32 (lettered s[i].toNat).char) := Wk.blk_cell hb1 1
  have cf1 : wr.frozen? ⟨w.heap.size, 1, none⟩ = false := Wk.blk_frozen hb0 1
  have df1 : wr.frozen? ⟨w.heap.size + 1, 1, none⟩ = false := Wk.blk_frozen hb1 1
  have c2 : wr.cell? ⟨w.heap.size, 2, none⟩ = some (.bool false) := Wk.blk_cell hb0 2
  have d2 : wr.cell? ⟨w.heap.size + 1, 2, none⟩ = some (.bool (lettered s[i].toNat).ctrl) := Wk.blk_cell hb1 2
  have cf2 : wr.frozen? ⟨w.heap.size, 2, none⟩ = false := Wk.blk_frozen hb0 2
  have df2 : wr.frozen? ⟨w.heap.size + 1, 2, none⟩ = false := Wk.blk_frozen hb1 2
  have c3 : wr.cell? ⟨w.heap.size, 3, none⟩ = some (.bool false) := Wk.blk_cell hb0 3
  have d3 : wr.cell? ⟨w.heap.size + 1, 3, none⟩ = some (.bool (lettered s[i].toNat).mt) := Wk.blk_cell hb1 3
  have cf3 : wr.frozen? ⟨w.heap.size, 3, none⟩ = false := Wk.blk_frozen hb0 3
  have df3 : wr.frozen? ⟨w.heap.size + 1, 3, none⟩ = false := Wk.blk_frozen hb1 3
  have c4 : wr.cell? ⟨w.heap.size, 4, none⟩ = some (.bool false) := Wk.blk_cell hb0 4
  have d4 : wr.cell? ⟨w.heap.size + 1, 4, none⟩ = some (.bool (lettered s[i].toNat).shift) := Wk.blk_cell hb1 4
  have cf4 : wr.frozen? ⟨w.heap.size, 4, none⟩ = false := Wk.blk_frozen hb0 4
  have df4 : wr.frozen? ⟨w.heap.size + 1, 4, none⟩ = false := Wk.blk_frozen hb1 4
  have c5 : wr.cell? ⟨w.heap.size, 5, none⟩ = some (.string ⟨#[]⟩) := Wk.blk_cell hb0 5
  have d5 : wr.cell? ⟨w.heap.size + 1, 5, none⟩ = some (.string ⟨(lettered s[i].toNat).text.toArray⟩) := Wk.blk_cell hb1 5
  have cf5 : wr.frozen? ⟨w.heap.size, 5, none⟩ = false := Wk.blk_frozen hb0 5
  have df5 : wr.frozen? ⟨w.heap.size + 1, 5, none⟩ = false := Wk.blk_frozen hb1 5
  have lt0 := lt_blk hb0
  clear hb0 hb1 hb hc' hf hz'
  go_wp2
  exact bodyPost_ret (v := .tuple #[keyV { lettered s[i].toNat with shift := true, mt := b2, ctrl := b4 }, .int .i64 (i + 1 : Nat)]) (by simp [results, Tryd.results75, go_sem, c0, c1, c2, c3, c4, c5, keyV]) rfl ⟨ret_p H.out, bel6 (bel_set (bel_set (bel_set hbel.out (Nat.le_succ _) _) (Nat.le_succ _) _) (Nat.le_succ _) _) (Nat.le_refl _)⟩
set_option maxHeartbeats 4000000 in
set_option maxRecDepth 100000 in
theorem m_5_t4 (s : ByteArray) (i : Nat) (last : Bool) (h2 : 2 ≤ i) (hi : i < s.size) (hs : s.size ≤ 1000000000) (w : World) (HT : Hid (Tb w)) (A B : ByteArray) (hA : A.size ≤ 1000000000) (hB : B.size ≤ 1000000000) (hii : (i : Int) < s.size) (hi2 : (2 : Int) ≤ i) (hsi : (s.size : Int) ≤ 1000000000) (hxs : (s.extract 2 i).size ≤ 1000000000) (hys : (s.extract 0 (i + 1)).size ≤ 1000000000) (he8 : (s[i].toNat : Int) < 256) (he9 : s[i].toNat < 256) (HC : Hid (cut1 59 (s.extract 2 i).data.toList = (A.data.toList, B.data.toList, false))) (qa : A.toList.isEmpty = true) (qa3 : A.toList = []) (qe : ((s[i].toNat : Int) == 126) = false) (qk : ((lettered s[i].toNat).kind == 0) = true) (H : Hid (meaning last s.data.toList i = unknown (s.data.toList.take (i + 1)))) :
    Calls Tryd.prog 75 #[.string s, .int .i64 i, .bool last] w fun e w' => e = .returned (knV (meaning last s.data.toList i)) ∧ Below w.heap.size w w' := by
  go_enter Tryd.func75, Tryd.ntmps75
  go_upto_region 19 with (first
    | (go_at_call 82; (with_reducible refine (cut_as HC.out _ hxs).mono ?_); rintro e wz ⟨rfl, nd, rfl⟩)
    | (go_at_call 57; (with_reducible refine (lettered_calls s[i].toNat he9 _).mono ?_); rintro e wz ⟨rfl, hb⟩; obtain ⟨hc', hf⟩ := bcell hb; have hz' := lt_alloc hb; unfold keyV))
  have HA := at22 (lettered s[i].toNat) hb
  revert HA
  generalize ((((((wz.setCell ⟨w.heap.size + 1, 0, none⟩ (.int .i64 (lettered s[i].toNat).kind)).setCell ⟨w.heap.size + 1, 1, none⟩ (.int .i32 (lettered s[i].toNat).char)).setCell ⟨w.heap.size + 1, 2, none⟩ (.bool (lettered s[i].toNat).ctrl)).setCell ⟨w.heap.size + 1, 3, none⟩ (.bool (lettered s[i].toNat).mt)).setCell ⟨w.heap.size + 1, 4, none⟩ (.bool (lettered s[i].toNat).shift)).setCell ⟨w.heap.size + 1, 5, none⟩ (.string ⟨(lettered s[i].toNat).text.toArray⟩)) = wr
  intro HA
  obtain ⟨hb0, hb1, hbel⟩ := HA
  have hbel := Lib.hid hbel
  have c0 : wr.cell? ⟨w.heap.size, 0, none⟩ = some (.int .i64 0) := Wk.blk_cell hb0 0
  have d0 : wr.cell? ⟨w.heap.size + 1, 0, none⟩ = some (.int .i64 (lettered s[i].toNat).kind) := Wk.blk_cell hb1 0
  have cf0 : wr.frozen? ⟨w.heap.size, 0, none⟩ = false := Wk.blk_frozen hb0 0
  have df0 : wr.frozen? ⟨w.heap.size + 1, 0, none⟩ = false := Wk.blk_frozen hb1 0
  have c1 : wr.cell? ⟨w.heap.size, 1, none⟩ = some (.int .i32 0) := Wk.blk_cell hb0 1
  have d1 : wr.cell? ⟨w.heap.size + 1, 1, none⟩ = some (.int .i32 (lettered s[i].toNat).char) := Wk.blk_cell hb1 1
  have cf1 : wr.frozen? ⟨w.heap.size, 1, none⟩ = false := Wk.blk_frozen hb0 1
  have df1 : wr.frozen? ⟨w.heap.size + 1, 1, none⟩ = false := Wk.blk_frozen hb1 1
  have c2 : wr.cell? ⟨w.heap.size, 2, none⟩ = some (.bool false) := Wk.blk_cell hb0 2
  have d2 : wr.cell? ⟨w.heap.size + 1, 2, none⟩ = some (.bool (lettered s[i].toNat).ctrl) := Wk.blk_cell hb1 2
  have cf2 : wr.frozen? ⟨w.heap.size, 2, none⟩ = false := Wk.blk_frozen hb0 2
  have df2 : wr.frozen? ⟨w.heap.size + 1, 2, none⟩ = false := Wk.blk_frozen hb1 2
  have c3 : wr.cell? ⟨w.heap.size, 3, none⟩ = some (.bool false) := Wk.blk_cell hb0 3
  have d3 : wr.cell? ⟨w.heap.size + 1, 3, none⟩ = some (.bool (lettered s[i].toNat).mt) := Wk.blk_cell hb1 3
  have cf3 : wr.frozen? ⟨w.heap.size, 3, none⟩ = false := Wk.blk_frozen hb0 3
  have df3 : wr.frozen? ⟨w.heap.size + 1, 3, none⟩ = false := Wk.blk_frozen hb1 3
  have c4 : wr.cell? ⟨w.heap.size, 4, none⟩ = some (.bool false) := Wk.blk_cell hb0 4
  have d4 : wr.cell? ⟨w.heap.size + 1, 4, none⟩ = some (.bool (lettered s[i].toNat).shift) := Wk.blk_cell hb1 4
  have cf4 : wr.frozen? ⟨w.heap.size, 4, none⟩ = false := Wk.blk_frozen hb0 4
  have df4 : wr.frozen? ⟨w.heap.size + 1, 4, none⟩ = false := Wk.blk_frozen hb1 4
  have c5 : wr.cell? ⟨w.heap.size, 5, none⟩ = some (.string ⟨#[]⟩) := Wk.blk_cell hb0 5
  have d5 : wr.cell? ⟨w.heap.size + 1, 5, none⟩ = some (.string ⟨(lettered s[i].toNat).text.toArray⟩) := Wk.blk_cell hb1 5
  have cf5 : wr.frozen? ⟨w.heap.size, 5, none⟩ = false := Wk.blk_frozen hb0 5
  have df5 : wr.frozen? ⟨w.heap.size + 1, 5, none⟩ = false := Wk.blk_frozen hb1 5
  have lt0 := lt_blk hb0
  clear hb0 hb1 hb hc' hf hz'
  go_wp2_with (go_at_call 74; (with_reducible refine (unknown_calls _ _ hys).mono ?_); rintro e wy ⟨rfl, hb2⟩; obtain ⟨hcd, hf2⟩ := bcell hb2; have hy' := lt_next lt0 hb2; unfold knV keyV)
  exact bodyPost_ret (v := knV (unknown (s.data.toList.take (i + 1)))) (by simp [results, Tryd.results75, go_sem, hcd, hy', lt0, c0, c1, c2, c3, c4, c5, knV, keyV]) rfl ⟨ret_p H.out, bel6 (bel_call hbel.out hb2) (Nat.le_refl _)⟩
set_option maxHeartbeats 4000000 in
set_option maxRecDepth 100000 in
theorem m_5_t5 (s : ByteArray) (i : Nat) (last : Bool) (h2 : 2 ≤ i) (hi : i < s.size) (hs : s.size ≤ 1000000000) (w : World) (HT : Hid (Tb w)) (A B : ByteArray) (hA : A.size ≤ 1000000000) (hB : B.size ≤ 1000000000) (hii : (i : Int) < s.size) (hi2 : (2 : Int) ≤ i) (hsi : (s.size : Int) ≤ 1000000000) (hxs : (s.extract 2 i).size ≤ 1000000000) (hys : (s.extract 0 (i + 1)).size ≤ 1000000000) (he8 : (s[i].toNat : Int) < 256) (he9 : s[i].toNat < 256) (HC : Hid (cut1 59 (s.extract 2 i).data.toList = (A.data.toList, B.data.toList, false))) (qa : A.toList.isEmpty = true) (qa3 : A.toList = []) (qe : ((s[i].toNat : Int) == 126) = false) (qk : ((lettered s[i].toNat).kind == 0) = false) (qt : ((lettered s[i].toNat).kind == 15) = false) (x1 x2 x4 : Int) (E1 : bits .and .i64 0 1 = x1) (E2 : bits .and .i64 0 2 = x2) (E4 : bits .and .i64 0 4 = x4) (b1 b2 b4 : Bool) (F1 : (x1 != 0) = b1) (F2 : (x2 != 0) = b2) (F4 : (x4 != 0) = b4) (H : Hid (meaning last s.data.toList i = ({ lettered s[i].toNat with shift := b1, mt := b2, ctrl := b4 }, i + 1))) :
    Calls Tryd.prog 75 #[.string s, .int .i64 i, .bool last] w fun e w' => e = .returned (knV (meaning last s.data.toList i)) ∧ Below w.heap.size w w' := by
  go_enter Tryd.func75, Tryd.ntmps75
  go_upto_region 22 with (first
    | (go_at_call 82; (with_reducible refine (cut_as HC.out _ hxs).mono ?_); rintro e wz ⟨rfl, nd, rfl⟩)
    | (go_at_call 57; (with_reducible refine (lettered_calls s[i].toNat he9 _).mono ?_); rintro e wz ⟨rfl, hb⟩; obtain ⟨hc', hf⟩ := bcell hb; have hz' := lt_alloc hb; unfold keyV))
  have HA := at22 (lettered s[i].toNat) hb
  revert HA
  generalize ((((((wz.setCell ⟨w.heap.size + 1, 0, none⟩ (.int .i64 (lettered s[i].toNat).kind)).setCell ⟨w.heap.size + 1, 1, none⟩ (.int .i32 (lettered s[i].toNat).char)).setCell ⟨w.heap.size + 1, 2, none⟩ (.bool (lettered s[i].toNat).ctrl)).setCell ⟨w.heap.size + 1, 3, none⟩ (.bool (lettered s[i].toNat).mt)).setCell ⟨w.heap.size + 1, 4, none⟩ (.bool (lettered s[i].toNat).shift)).setCell ⟨w.heap.size + 1, 5, none⟩ (.string ⟨(lettered s[i].toNat).text.toArray⟩)) = wr
  intro HA
  obtain ⟨hb0, hb1, hbel⟩ := HA
  have hbel := Lib.hid hbel
  have c0 : wr.cell? ⟨w.heap.size, 0, none⟩ = some (.int .i64 0) := Wk.blk_cell hb0 0
  have d0 : wr.cell? ⟨w.heap.size + 1, 0, none⟩ = some (.int .i64 (lettered s[i].toNat).kind) := Wk.blk_cell hb1 0
  have cf0 : wr.frozen? ⟨w.heap.size, 0, none⟩ = false := Wk.blk_frozen hb0 0
  have df0 : wr.frozen? ⟨w.heap.size + 1, 0, none⟩ = false := Wk.blk_frozen hb1 0
  have c1 : wr.cell? ⟨w.heap.size, 1, none⟩ = some (.int .i32 0) := Wk.blk_cell hb0 1
  have d1 : wr.cell? ⟨w.heap.size + 1, 1, none⟩ = some (.int .i32 (lettered s[i].toNat).char) := Wk.blk_cell hb1 1
  have cf1 : wr.frozen? ⟨w.heap.size, 1, none⟩ = false := Wk.blk_frozen hb0 1
  have df1 : wr.frozen? ⟨w.heap.size + 1, 1, none⟩ = false := Wk.blk_frozen hb1 1
  have c2 : wr.cell? ⟨w.heap.size, 2, none⟩ = some (.bool false) := Wk.blk_cell hb0 2
  have d2 : wr.cell? ⟨w.heap.size + 1, 2, none⟩ = some (.bool (lettered s[i].toNat).ctrl) := Wk.blk_cell hb1 2
  have cf2 : wr.frozen? ⟨w.heap.size, 2, none⟩ = false := Wk.blk_frozen hb0 2
  have df2 : wr.frozen? ⟨w.heap.size + 1, 2, none⟩ = false := Wk.blk_frozen hb1 2
  have c3 : wr.cell? ⟨w.heap.size, 3, none⟩ = some (.bool false) := Wk.blk_cell hb0 3
  have d3 : wr.cell? ⟨w.heap.size + 1, 3, none⟩ = some (.bool (lettered s[i].toNat).mt) := Wk.blk_cell hb1 3
  have cf3 : wr.frozen? ⟨w.heap.size, 3, none⟩ = false := Wk.blk_frozen hb0 3
  have df3 : wr.frozen? ⟨w.heap.size + 1, 3, none⟩ = false := Wk.blk_frozen hb1 3
  have c4 : wr.cell? ⟨w.heap.size, 4, none⟩ = some (.bool false) := Wk.blk_cell hb0 4
  have d4 : wr.cell? ⟨w.heap.size + 1, 4, none⟩ = some (.bool (lettered s[i].toNat).shift) := Wk.blk_cell hb1 4
  have cf4 : wr.frozen? ⟨w.heap.size, 4, none⟩ = false := Wk.blk_frozen hb0 4
  have df4 : wr.frozen? ⟨w.heap.size + 1, 4, none⟩ = false := Wk.blk_frozen hb1 4
  have c5 : wr.cell? ⟨w.heap.size, 5, none⟩ = some (.string ⟨#[]⟩) := Wk.blk_cell hb0 5
  have d5 : wr.cell? ⟨w.heap.size + 1, 5, none⟩ = some (.string ⟨(lettered s[i].toNat).text.toArray⟩) := Wk.blk_cell hb1 5
  have cf5 : wr.frozen? ⟨w.heap.size, 5, none⟩ = false := Wk.blk_frozen hb0 5
  have df5 : wr.frozen? ⟨w.heap.size + 1, 5, none⟩ = false := Wk.blk_frozen hb1 5
  have lt0 := lt_blk hb0
  clear hb0 hb1 hb hc' hf hz'
  go_wp2
  exact bodyPost_ret (v := .tuple #[keyV { lettered s[i].toNat with shift := b1, mt := b2, ctrl := b4 }, .int .i64 (i + 1 : Nat)]) (by simp [results, Tryd.results75, go_sem, c0, c1, c2, c3, c4, c5, keyV]) rfl ⟨ret_p H.out, bel6 (bel_set (bel_set (bel_set hbel.out (Nat.le_succ _) _) (Nat.le_succ _) _) (Nat.le_succ _) _) (Nat.le_refl _)⟩
set_option maxHeartbeats 4000000 in
set_option maxRecDepth 100000 in
theorem m_5_t5z (s : ByteArray) (i : Nat) (last : Bool) (h2 : 2 ≤ i) (hi : i < s.size) (hs : s.size ≤ 1000000000) (w : World) (HT : Hid (Tb w)) (A B : ByteArray) (hA : A.size ≤ 1000000000) (hB : B.size ≤ 1000000000) (hii : (i : Int) < s.size) (hi2 : (2 : Int) ≤ i) (hsi : (s.size : Int) ≤ 1000000000) (hxs : (s.extract 2 i).size ≤ 1000000000) (hys : (s.extract 0 (i + 1)).size ≤ 1000000000) (he8 : (s[i].toNat : Int) < 256) (he9 : s[i].toNat < 256) (HC : Hid (cut1 59 (s.extract 2 i).data.toList = (A.data.toList, B.data.toList, false))) (qa : A.toList.isEmpty = true) (qa3 : A.toList = []) (qe : ((s[i].toNat : Int) == 126) = false) (qk : ((lettered s[i].toNat).kind == 0) = false) (qt : ((lettered s[i].toNat).kind == 15) = true) (x1 x2 x4 : Int) (E1 : bits .and .i64 0 1 = x1) (E2 : bits .and .i64 0 2 = x2) (E4 : bits .and .i64 0 4 = x4) (b1 b2 b4 : Bool) (F1 : (x1 != 0) = b1) (F2 : (x2 != 0) = b2) (F4 : (x4 != 0) = b4) (H : Hid (meaning last s.data.toList i = ({ lettered s[i].toNat with shift := true, mt := b2, ctrl := b4 }, i + 1))) :
    Calls Tryd.prog 75 #[.string s, .int .i64 i, .bool last] w fun e w' => e = .returned (knV (meaning last s.data.toList i)) ∧ Below w.heap.size w w' := by
  go_enter Tryd.func75, Tryd.ntmps75
  go_upto_region 22 with (first
    | (go_at_call 82; (with_reducible refine (cut_as HC.out _ hxs).mono ?_); rintro e wz ⟨rfl, nd, rfl⟩)
    | (go_at_call 57; (with_reducible refine (lettered_calls s[i].toNat he9 _).mono ?_); rintro e wz ⟨rfl, hb⟩; obtain ⟨hc', hf⟩ := bcell hb; have hz' := lt_alloc hb; unfold keyV))
  have HA := at22 (lettered s[i].toNat) hb
  revert HA
  generalize ((((((wz.setCell ⟨w.heap.size + 1, 0, none⟩ (.int .i64 (lettered s[i].toNat).kind)).setCell ⟨w.heap.size + 1, 1, none⟩ (.int .i32 (lettered s[i].toNat).char)).setCell ⟨w.heap.size + 1, 2, none⟩ (.bool (lettered s[i].toNat).ctrl)).setCell ⟨w.heap.size + 1, 3, none⟩ (.bool (lettered s[i].toNat).mt)).setCell ⟨w.heap.size + 1, 4, none⟩ (.bool (lettered s[i].toNat).shift)).setCell ⟨w.heap.size + 1, 5, none⟩ (.string ⟨(lettered s[i].toNat).text.toArray⟩)) = wr
  intro HA
  obtain ⟨hb0, hb1, hbel⟩ := HA
  have hbel := Lib.hid hbel
  have c0 : wr.cell? ⟨w.heap.size, 0, none⟩ = some (.int .i64 0) := Wk.blk_cell hb0 0
  have d0 : wr.cell? ⟨w.heap.size + 1, 0, none⟩ = some (.int .i64 (lettered s[i].toNat).kind) := Wk.blk_cell hb1 0
  have cf0 : wr.frozen? ⟨w.heap.size, 0, none⟩ = false := Wk.blk_frozen hb0 0
  have df0 : wr.frozen? ⟨w.heap.size + 1, 0, none⟩ = false := Wk.blk_frozen hb1 0
  have c1 : wr.cell? ⟨w.heap.size, 1, none⟩ = some (.int .i32 0) := Wk.blk_cell hb0 1
  have d1 : wr.cell? ⟨w.heap.size + 1, 1, none⟩ = some (.int .i32 (lettered s[i].toNat).char) := Wk.blk_cell hb1 1
  have cf1 : wr.frozen? ⟨w.heap.size, 1, none⟩ = false := Wk.blk_frozen hb0 1
  have df1 : wr.frozen? ⟨w.heap.size + 1, 1, none⟩ = false := Wk.blk_frozen hb1 1
  have c2 : wr.cell? ⟨w.heap.size, 2, none⟩ = some (.bool false) := Wk.blk_cell hb0 2
  have d2 : wr.cell? ⟨w.heap.size + 1, 2, none⟩ = some (.bool (lettered s[i].toNat).ctrl) := Wk.blk_cell hb1 2
  have cf2 : wr.frozen? ⟨w.heap.size, 2, none⟩ = false := Wk.blk_frozen hb0 2
  have df2 : wr.frozen? ⟨w.heap.size + 1, 2, none⟩ = false := Wk.blk_frozen hb1 2
  have c3 : wr.cell? ⟨w.heap.size, 3, none⟩ = some (.bool false) := Wk.blk_cell hb0 3
  have d3 : wr.cell? ⟨w.heap.size + 1, 3, none⟩ = some (.bool (lettered s[i].toNat).mt) := Wk.blk_cell hb1 3
  have cf3 : wr.frozen? ⟨w.heap.size, 3, none⟩ = false := Wk.blk_frozen hb0 3
  have df3 : wr.frozen? ⟨w.heap.size + 1, 3, none⟩ = false := Wk.blk_frozen hb1 3
  have c4 : wr.cell? ⟨w.heap.size, 4, none⟩ = some (.bool false) := Wk.blk_cell hb0 4
  have d4 : wr.cell? ⟨w.heap.size + 1, 4, none⟩ = some (.bool (lettered s[i].toNat).shift) := Wk.blk_cell hb1 4
  have cf4 : wr.frozen? ⟨w.heap.size, 4, none⟩ = false := Wk.blk_frozen hb0 4
  have df4 : wr.frozen? ⟨w.heap.size + 1, 4, none⟩ = false := Wk.blk_frozen hb1 4
  have c5 : wr.cell? ⟨w.heap.size, 5, none⟩ = some (.string ⟨#[]⟩) := Wk.blk_cell hb0 5
  have d5 : wr.cell? ⟨w.heap.size + 1, 5, none⟩ = some (.string ⟨(lettered s[i].toNat).text.toArray⟩) := Wk.blk_cell hb1 5
  have cf5 : wr.frozen? ⟨w.heap.size, 5, none⟩ = false := Wk.blk_frozen hb0 5
  have df5 : wr.frozen? ⟨w.heap.size + 1, 5, none⟩ = false := Wk.blk_frozen hb1 5
  have lt0 := lt_blk hb0
  clear hb0 hb1 hb hc' hf hz'
  go_wp2
  exact bodyPost_ret (v := .tuple #[keyV { lettered s[i].toNat with shift := true, mt := b2, ctrl := b4 }, .int .i64 (i + 1 : Nat)]) (by simp [results, Tryd.results75, go_sem, c0, c1, c2, c3, c4, c5, keyV]) rfl ⟨ret_p H.out, bel6 (bel_set (bel_set (bel_set hbel.out (Nat.le_succ _) _) (Nat.le_succ _) _) (Nat.le_succ _) _) (Nat.le_refl _)⟩
end Go.Proofs.YtjjilhfebkeoeaaDoor.Ky
