/- meaning's paths: walked (gen/gen_meaning.py printed them). -/
import Derived.Test.YtjjilhfebkeoeaaDoorKyG
import Derived.RegionTactic
import Derived.Deep.DeepCutAuto
import Derived.StillTailTactics
import Derived.ChangeAlike
namespace Go.Proofs.YtjjilhfebkeoeaaDoor.Ky
open Go Go.RowKit
open Go.Proofs.YtjjilhfebkeoeaaDoor.Wk (bcell bel_drew bel_drewN bel_alloc bel_set bel_call size_len mk_data beq_true_i bne_true_i bne_false_i beq_false_i drop_cons var_below)
set_option linter.unusedVariables false
set_option linter.unusedSimpArgs false




theorem paste_next (s : ByteArray) (i : Nat) (last : Bool) (hi : i < s.size) (hs : s.size ≤ 1000000000) (w : World) (hT : Tb w) :
    Calls Tryd.prog 84 #[.string s, .int .i64 ((i : Int) + 1), .bool last] w fun e w' => e = .returned (knV (paste last s.data.toList (i + 1))) ∧ Below w.heap.size w w' := paste_calls s (i + 1) last hi hs w hT
theorem numbered_one (w : World) : Calls Tryd.prog 58 #[.int .i64 1] w fun e w' => e = .returned (keyV (numbered 1)) ∧ Below w.heap.size w w' := numbered_calls 1 w
set_option maxHeartbeats 4000000 in
set_option maxRecDepth 100000 in
theorem m_7_t1 (s : ByteArray) (i : Nat) (last : Bool) (h2 : 2 ≤ i) (hi : i < s.size) (hs : s.size ≤ 1000000000) (w : World) (HT : Hid (Tb w)) (A B : ByteArray) (hA : A.size ≤ 1000000000) (hB : B.size ≤ 1000000000) (hii : (i : Int) < s.size) (hi2 : (2 : Int) ≤ i) (hsi : (s.size : Int) ≤ 1000000000) (hxs : (s.extract 2 i).size ≤ 1000000000) (hys : (s.extract 0 (i + 1)).size ≤ 1000000000) (he8 : (s[i].toNat : Int) < 256) (he9 : s[i].toNat < 256) (HC : Hid (cut1 59 (s.extract 2 i).data.toList = (A.data.toList, B.data.toList, false))) (qa : A.toList.isEmpty = false) (qa2 : (!A.toList.isEmpty) = true) (qa3 : ¬ A.toList = []) (n : Nat) (HN : Hid (num A.data.toList = some n)) (qe : ((s[i].toNat : Int) == 126) = true) (qn : ((n : Int) == 200) = true) (H : Hid (meaning last s.data.toList i = paste last s.data.toList (i + 1))) :
    Calls Tryd.prog 75 #[.string s, .int .i64 i, .bool last] w fun e w' => e = .returned (knV (meaning last s.data.toList i)) ∧ Below w.heap.size w w' := by
  go_enter Tryd.func75, Tryd.ntmps75
  go_wp2_with (first
    | (go_at_call 82; (with_reducible refine (cut_as HC.out _ hxs).mono ?_); rintro e wz ⟨rfl, nd, rfl⟩)
    | (go_at_call 83; (with_reducible refine (number_some HN.out hA _).mono ?_); rintro e wz ⟨rfl, rfl⟩)
    | (go_at_call 84; (with_reducible refine (paste_next s i last hi hs _ (HT.out.below (bel_drewN (bel_a _ _) _))).mono ?_); rintro e wy ⟨rfl, hb2⟩; obtain ⟨hcd, hf2⟩ := bcell hb2; have hy' := lt_alloc_d hb2; unfold knV keyV))
  exact bodyPost_ret (v := knV (paste last s.data.toList (i + 1))) (by simp [results, Tryd.results75, go_sem, hcd, hy', knV, keyV]) rfl ⟨ret_p H.out, bel6 (bel_call (bel_drewN (bel_a _ _) _) hb2) (Nat.le_refl _)⟩
set_option maxHeartbeats 4000000 in
set_option maxRecDepth 100000 in
theorem m_5_t3 (s : ByteArray) (i : Nat) (last : Bool) (h2 : 2 ≤ i) (hi : i < s.size) (hs : s.size ≤ 1000000000) (w : World) (HT : Hid (Tb w)) (A B : ByteArray) (hA : A.size ≤ 1000000000) (hB : B.size ≤ 1000000000) (hii : (i : Int) < s.size) (hi2 : (2 : Int) ≤ i) (hsi : (s.size : Int) ≤ 1000000000) (hxs : (s.extract 2 i).size ≤ 1000000000) (hys : (s.extract 0 (i + 1)).size ≤ 1000000000) (he8 : (s[i].toNat : Int) < 256) (he9 : s[i].toNat < 256) (HC : Hid (cut1 59 (s.extract 2 i).data.toList = (A.data.toList, B.data.toList, false))) (qa : A.toList.isEmpty = true) (qa3 : A.toList = []) (qe : ((s[i].toNat : Int) == 126) = true) (qk : ((numbered 1).kind == 0) = false) (qt : ((numbered 1).kind == 15) = false) (x1 x2 x4 : Int) (E1 : bits .and .i64 0 1 = x1) (E2 : bits .and .i64 0 2 = x2) (E4 : bits .and .i64 0 4 = x4) (b1 b2 b4 : Bool) (F1 : (x1 != 0) = b1) (F2 : (x2 != 0) = b2) (F4 : (x4 != 0) = b4) (H : Hid (meaning last s.data.toList i = ({ numbered 1 with shift := b1, mt := b2, ctrl := b4 }, i + 1))) :
    Calls Tryd.prog 75 #[.string s, .int .i64 i, .bool last] w fun e w' => e = .returned (knV (meaning last s.data.toList i)) ∧ Below w.heap.size w w' := by
  go_enter Tryd.func75, Tryd.ntmps75
  go_upto_region 22 with (first
    | (go_at_call 82; (with_reducible refine (cut_as HC.out _ hxs).mono ?_); rintro e wz ⟨rfl, nd, rfl⟩)
    | (go_at_call 58; (with_reducible refine (numbered_one _).mono ?_); rintro e wz ⟨rfl, hb⟩; obtain ⟨hc', hf⟩ := bcell hb; have hz' := lt_alloc hb; unfold keyV))
  have HA := at22 (numbered 1) hb
  revert HA
  generalize ((((((wz.setCell ⟨w.heap.size + 1, 0, none⟩ (.int .i64 (numbered 1).kind)).setCell ⟨w.heap.size + 1, 1, none⟩ (.int .i32 (numbered 1).char)).setCell ⟨w.heap.size + 1, 2, none⟩ (.bool (numbered 1).ctrl)).setCell ⟨w.heap.size + 1, 3, none⟩ (.bool (numbered 1).mt)).setCell ⟨w.heap.size + 1, 4, none⟩ (.bool (numbered 1).shift)).setCell ⟨w.heap.size + 1, 5, none⟩ (.string ⟨(numbered 1).text.toArray⟩)) = wr
  intro HA
  obtain ⟨hb0, hb1, hbel⟩ := HA
  have hbel := Lib.hid hbel
  have c0 : wr.cell? ⟨w.heap.size, 0, none⟩ = some (.int .i64 0) := Wk.blk_cell hb0 0
  have d0 : wr.cell? ⟨w.heap.size + 1, 0, none⟩ = some (.int .i64 (numbered 1).kind) := Wk.blk_cell hb1 0
  have cf0 : wr.frozen? ⟨w.heap.size, 0, none⟩ = false := Wk.blk_frozen hb0 0
  have df0 : wr.frozen? ⟨w.heap.size + 1, 0, none⟩ = false := Wk.blk_frozen hb1 0
  have c1 : wr.cell? ⟨w.heap.size, 1, none⟩ = some (.int .i32 0) := Wk.blk_cell hb0 1
  have d1 : wr.cell? ⟨w.heap.size + 1, 1, none⟩ = some (.int .i32 (numbered 1).char) := Wk.blk_cell hb1 1
  have cf1 : wr.frozen? ⟨w.heap.size, 1, none⟩ = false := Wk.blk_frozen hb0 1
  have df1 : wr.frozen? ⟨w.heap.size + 1, 1, none⟩ = false := Wk.blk_frozen hb1 1
  have c2 : wr.cell? ⟨w.heap.size, 2, none⟩ = some (.bool false) := Wk.blk_cell hb0 2
  have d2 : wr.cell? ⟨w.heap.size + 1, 2, none⟩ = some (.bool (numbered 1).ctrl) := Wk.blk_cell hb1 2
  have cf2 : wr.frozen? ⟨w.heap.size, 2, none⟩ = false := Wk.blk_frozen hb0 2
  have df2 : wr.frozen? ⟨w.heap.size + 1, 2, none⟩ = false := Wk.blk_frozen hb1 2
  have c3 : wr.cell? ⟨w.heap.size, 3, none⟩ = some (.bool false) := Wk.blk_cell hb0 3
  have d3 : wr.cell? ⟨w.heap.size + 1, 3, none⟩ = some (.bool (numbered 1).mt) := Wk.blk_cell hb1 3
  have cf3 : wr.frozen? ⟨w.heap.size, 3, none⟩ = false := Wk.blk_frozen hb0 3
  have df3 : wr.frozen? ⟨w.heap.size + 1, 3, none⟩ = false := Wk.blk_frozen hb1 3
  have c4 : wr.cell? ⟨w.heap.size, 4, none⟩ = some (.bool false) := Wk.blk_cell hb0 4
  have d4 : wr.cell? ⟨w.heap.size + 1, 4, none⟩ = some (.bool (numbered 1).shift) := Wk.blk_cell hb1 4
  have cf4 : wr.frozen? ⟨w.heap.size, 4, none⟩ = false := Wk.blk_frozen hb0 4
  have df4 : wr.frozen? ⟨w.heap.size + 1, 4, none⟩ = false := Wk.blk_frozen hb1 4
  have c5 : wr.cell? ⟨w.heap.size, 5, none⟩ = some (.string ⟨#[]⟩) := Wk.blk_cell hb0 5
  have d5 : wr.cell? ⟨w.heap.size + 1, 5, none⟩ = some (.string ⟨(numbered 1).text.toArray⟩) := Wk.blk_cell hb1 5
  have cf5 : wr.frozen? ⟨w.heap.size, 5, none⟩ = false := Wk.blk_frozen hb0 5
  have df5 : wr.frozen? ⟨w.heap.size + 1, 5, none⟩ = false := Wk.blk_frozen hb1 5
  have lt0 := lt_blk hb0
  clear hb0 hb1 hb hc' hf hz'
  go_wp2
  exact bodyPost_ret (v := .tuple #[keyV { numbered 1 with shift := b1, mt := b2, ctrl := b4 }, .int .i64 (i + 1 : Nat)]) (by simp [results, Tryd.results75, go_sem, c0, c1, c2, c3, c4, c5, keyV]) rfl ⟨ret_p H.out, bel6 (bel_set (bel_set (bel_set hbel.out (Nat.le_succ _) _) (Nat.le_succ _) _) (Nat.le_succ _) _) (Nat.le_refl _)⟩
end Go.Proofs.YtjjilhfebkeoeaaDoor.Ky
