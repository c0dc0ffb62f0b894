/- Bytes: joined (gen/gen_bytes2.py printed it). -/
import Derived.Test.YtjjilhfebkeoeaaDoorKyW0
import Derived.Test.YtjjilhfebkeoeaaDoorKyW2
import Derived.Deep.RegionHeld3
import Derived.Test.YtjjilhfebkeoeaaDoorPKyx2
import Derived.Maps.AppendAt
import Derived.Laws.AppendOwn
import Derived.Test.YtjjilhfebkeoeaaDoorNx
import Derived.Laws.AppendOwnNone
namespace Go.Proofs.YtjjilhfebkeoeaaDoor.Ky
open Go Go.RowKit Go.Proofs.YtjjilhfebkeoeaaDoor.PKy
open Go.Proofs.YtjjilhfebkeoeaaDoorW.PrintWords (bt rdOf Kd Drawn0 Reps Aside0)
open Go.Proofs.YtjjilhfebkeoeaaDoor.Wk (bcell bel_drew bel_drewN bel_alloc bel_set bel_call size_len mk_data beq_true_i bne_true_i bne_false_i beq_false_i drop_cons var_below blk_alloc blk_below blk_drewN blk_cell blk_frozen blk_far blk_set blk_lt own_slice own_below cells_new)
set_option linter.unusedVariables false
set_option linter.unusedSimpArgs false



theorem encL_len (c : Int) : (encL c).length ≤ 4 := by
  unfold encL
  split
  · unfold Lib.encodeRune; rw [List.length_map]; exact (Lib.encodeRuneZ_length c).2
  · simp
theorem ctl_len (c : Int) : (ctl c).length ≤ 1 := by
  unfold ctl; split
  · simp
  · split <;> simp
theorem seqL_len (k : Key) : (seqL k).length ≤ 100 := by
  have hm := mnum_le k
  have hd : (Lib.decDigits (mnum k)).length ≤ 10 := dec_len (by omega)
  unfold seqL
  split
  · unfold letterF; split
    · simp
    · simp only [List.length_append, List.length_cons, List.length_nil]; omega
  · split
    · rename_i n hn
      have hn' := List.mem_of_find?_eq_some hn
      rw [List.mem_range'_1] at hn'
      have hd2 : (Lib.decDigits n).length ≤ 10 := dec_len (by omega)
      unfold numberF; split <;> simp only [List.length_append, List.length_cons, List.length_nil] <;> omega
    · simp
theorem ne3 {l : List UInt8} (h : l ≠ []) : l.isEmpty = false ∧ (!l.isEmpty) = true ∧ ¬ l = [] := by
  cases l with
  | nil => exact absurd rfl h
  | cons a r => exact ⟨rfl, rfl, by simp⟩
theorem eq3 {l : List UInt8} (h : l = []) : l.isEmpty = true ∧ (!l.isEmpty) = false ∧ l = [] := by subst h; exact ⟨rfl, rfl, rfl⟩
def BPost (k : Key) (w : World) (e : Ending) (w' : World) : Prop := e = .returned (.tuple #[.string ⟨(bytesOf k).1.toArray⟩, .bool (bytesOf k).2]) ∧ Below w.heap.size w w'
theorem ext_data {a b : ByteArray} (h : a.data.toList = b.data.toList) : a = b := by cases a; cases b; simp only [ByteArray.mk.injEq]; exact Array.toList_inj.mp h
theorem bj_1_false (kind char : Int) (ct sh : Bool) (text : List UInt8) (w : World) (hT : Tb w) (hl2 : text.length ≤ 999999900) (hc0 : -2147483648 ≤ char) (hc1 : char ≤ 2147483647) (h1 : kind = 1) : Calls Tryd.prog 24 #[keyV ⟨kind, char, ct, false, sh, text⟩] w (BPost ⟨kind, char, ct, false, sh, text⟩ w) := by
  have hl1 : (⟨text.toArray⟩ : ByteArray).size ≤ 999999900 := by rw [← size_len]; simpa using hl2
  have hf : form ⟨kind, char, ct, false, sh, text⟩ = encL char := by unfold form lead0; simp only; rw [if_neg (by rintro ⟨g, g'⟩; first | (cases g; done) | omega | (simp only at g'; omega)), if_pos h1]
  have hFs : (⟨(encL char).toArray⟩ : ByteArray).size ≤ 1000000000 := by rw [← size_len]; have := encL_len char; show (encL char).length ≤ 1000000000; omega
  by_cases hn : encL char = []
  · obtain ⟨e1, e2, e3⟩ := eq3 hn
    exact by_1_false_e kind char ct sh text w (Lib.hid hT) hl1 hl2 (beq_true_i h1) (beq_false_i (by omega)) (beq_false_i (by omega)) (beq_false_i (by omega)) (beq_false_i (by omega)) (beq_false_i (by omega)) ⟨(encL char).toArray⟩ (by rw [← size_len]; have := encL_len char; simpa using (show (encL char).length ≤ 10 by omega)) rfl hc0 hc1 (by rw [Lib.toList_data]; exact e1) (by rw [Lib.toList_data]; exact e2) (by rw [Lib.toList_data]; exact e3) (bytes_nil (by rw [hf, hn]))
  · obtain ⟨e1, e2, e3⟩ := ne3 hn
    by_cases hr : keysOf true (encL char) = [⟨kind, char, ct, false, sh, text⟩]
    · exact by_1_false_t kind char ct sh text w (Lib.hid hT) hl1 hl2 (beq_true_i h1) (beq_false_i (by omega)) (beq_false_i (by omega)) (beq_false_i (by omega)) (beq_false_i (by omega)) (beq_false_i (by omega)) ⟨(encL char).toArray⟩ (by rw [← size_len]; have := encL_len char; simpa using (show (encL char).length ≤ 10 by omega)) rfl hc0 hc1 (by rw [Lib.toList_data]; exact e1) (by rw [Lib.toList_data]; exact e2) (by rw [Lib.toList_data]; exact e3) hFs _ rfl (by show decide _ = true; rw [decide_eq_true_eq]; exact hr) (bytes_yes hf hn hr)
    · exact by_1_false_f kind char ct sh text w (Lib.hid hT) hl1 hl2 (beq_true_i h1) (beq_false_i (by omega)) (beq_false_i (by omega)) (beq_false_i (by omega)) (beq_false_i (by omega)) (beq_false_i (by omega)) ⟨(encL char).toArray⟩ (by rw [← size_len]; have := encL_len char; simpa using (show (encL char).length ≤ 10 by omega)) rfl hc0 hc1 (by rw [Lib.toList_data]; exact e1) (by rw [Lib.toList_data]; exact e2) (by rw [Lib.toList_data]; exact e3) hFs _ rfl (by show decide _ = false; rw [decide_eq_false_iff_not]; exact hr) (bytes_no hf hr)
theorem bj_1_true (kind char : Int) (ct sh : Bool) (text : List UInt8) (w : World) (hT : Tb w) (hl2 : text.length ≤ 999999900) (hc0 : -2147483648 ≤ char) (hc1 : char ≤ 2147483647) (h1 : kind = 1) : Calls Tryd.prog 24 #[keyV ⟨kind, char, ct, true, sh, text⟩] w (BPost ⟨kind, char, ct, true, sh, text⟩ w) := by
  have hl1 : (⟨text.toArray⟩ : ByteArray).size ≤ 999999900 := by rw [← size_len]; simpa using hl2
  have hf : form ⟨kind, char, ct, true, sh, text⟩ = 27 :: (encL char) := by unfold form lead0; simp only; rw [if_pos ⟨by trivial, by omega⟩, if_pos h1]
  have hFs : (⟨(27 :: (encL char)).toArray⟩ : ByteArray).size ≤ 1000000000 := by rw [← size_len]; have := encL_len char; show (27 :: (encL char)).length ≤ 1000000000; simp only [List.length_cons, List.length_append, List.length_nil, pbeg, pend]; omega
  have hn : 27 :: (encL char) ≠ [] := by simp
  obtain ⟨e1, e2, e3⟩ := ne3 hn
  by_cases hr : keysOf true (27 :: (encL char)) = [⟨kind, char, ct, true, sh, text⟩]
  · exact by_1_true_t kind char ct sh text w (Lib.hid hT) hl1 hl2 (beq_true_i h1) (beq_false_i (by omega)) (beq_false_i (by omega)) (beq_false_i (by omega)) (beq_false_i (by omega)) (beq_false_i (by omega)) ⟨(encL char).toArray⟩ (by rw [← size_len]; have := encL_len char; simpa using (show (encL char).length ≤ 10 by omega)) rfl hc0 hc1 ⟨(27 :: (encL char)).toArray⟩ (by first | rfl | (apply ext_data; rw [data_app]; rfl) | (apply ext_data; rw [data_app, data_app]; rfl)) (by rw [Lib.toList_data]; exact e1) (by rw [Lib.toList_data]; exact e2) (by rw [Lib.toList_data]; exact e3) hFs _ rfl (by show decide _ = true; rw [decide_eq_true_eq]; exact hr) (bytes_yes hf hn hr)
  · exact by_1_true_f kind char ct sh text w (Lib.hid hT) hl1 hl2 (beq_true_i h1) (beq_false_i (by omega)) (beq_false_i (by omega)) (beq_false_i (by omega)) (beq_false_i (by omega)) (beq_false_i (by omega)) ⟨(encL char).toArray⟩ (by rw [← size_len]; have := encL_len char; simpa using (show (encL char).length ≤ 10 by omega)) rfl hc0 hc1 ⟨(27 :: (encL char)).toArray⟩ (by first | rfl | (apply ext_data; rw [data_app]; rfl) | (apply ext_data; rw [data_app, data_app]; rfl)) (by rw [Lib.toList_data]; exact e1) (by rw [Lib.toList_data]; exact e2) (by rw [Lib.toList_data]; exact e3) hFs _ rfl (by show decide _ = false; rw [decide_eq_false_iff_not]; exact hr) (bytes_no hf hr)
theorem bj_2_false (kind char : Int) (ct sh : Bool) (text : List UInt8) (w : World) (hT : Tb w) (hl2 : text.length ≤ 999999900) (hc0 : -2147483648 ≤ char) (hc1 : char ≤ 2147483647) (h1 : kind ≠ 1) (h2 : kind = 2) : Calls Tryd.prog 24 #[keyV ⟨kind, char, ct, false, sh, text⟩] w (BPost ⟨kind, char, ct, false, sh, text⟩ w) := by
  have hl1 : (⟨text.toArray⟩ : ByteArray).size ≤ 999999900 := by rw [← size_len]; simpa using hl2
  have hf : form ⟨kind, char, ct, false, sh, text⟩ = ctl char := by unfold form lead0; simp only; rw [if_neg (by rintro ⟨g, g'⟩; first | (cases g; done) | omega | (simp only at g'; omega)), if_neg h1, if_pos h2]
  have hFs : (⟨(ctl char).toArray⟩ : ByteArray).size ≤ 1000000000 := by rw [← size_len]; have := ctl_len char; show (ctl char).length ≤ 1000000000; omega
  by_cases hn : ctl char = []
  · obtain ⟨e1, e2, e3⟩ := eq3 hn
    exact by_2_false_e kind char ct sh text w (Lib.hid hT) hl1 hl2 (beq_false_i h1) (beq_true_i h2) (beq_false_i (by omega)) (beq_false_i (by omega)) (beq_false_i (by omega)) (beq_false_i (by omega)) ⟨(ctl char).toArray⟩ (by rw [← size_len]; have := ctl_len char; simpa using (show (ctl char).length ≤ 10 by omega)) rfl (by rw [Lib.toList_data]; exact e1) (by rw [Lib.toList_data]; exact e2) (by rw [Lib.toList_data]; exact e3) (bytes_nil (by rw [hf, hn]))
  · obtain ⟨e1, e2, e3⟩ := ne3 hn
    by_cases hr : keysOf true (ctl char) = [⟨kind, char, ct, false, sh, text⟩]
    · exact by_2_false_t kind char ct sh text w (Lib.hid hT) hl1 hl2 (beq_false_i h1) (beq_true_i h2) (beq_false_i (by omega)) (beq_false_i (by omega)) (beq_false_i (by omega)) (beq_false_i (by omega)) ⟨(ctl char).toArray⟩ (by rw [← size_len]; have := ctl_len char; simpa using (show (ctl char).length ≤ 10 by omega)) rfl (by rw [Lib.toList_data]; exact e1) (by rw [Lib.toList_data]; exact e2) (by rw [Lib.toList_data]; exact e3) hFs _ rfl (by show decide _ = true; rw [decide_eq_true_eq]; exact hr) (bytes_yes hf hn hr)
    · exact by_2_false_f kind char ct sh text w (Lib.hid hT) hl1 hl2 (beq_false_i h1) (beq_true_i h2) (beq_false_i (by omega)) (beq_false_i (by omega)) (beq_false_i (by omega)) (beq_false_i (by omega)) ⟨(ctl char).toArray⟩ (by rw [← size_len]; have := ctl_len char; simpa using (show (ctl char).length ≤ 10 by omega)) rfl (by rw [Lib.toList_data]; exact e1) (by rw [Lib.toList_data]; exact e2) (by rw [Lib.toList_data]; exact e3) hFs _ rfl (by show decide _ = false; rw [decide_eq_false_iff_not]; exact hr) (bytes_no hf hr)
theorem bj_2_true (kind char : Int) (ct sh : Bool) (text : List UInt8) (w : World) (hT : Tb w) (hl2 : text.length ≤ 999999900) (hc0 : -2147483648 ≤ char) (hc1 : char ≤ 2147483647) (h1 : kind ≠ 1) (h2 : kind = 2) : Calls Tryd.prog 24 #[keyV ⟨kind, char, ct, true, sh, text⟩] w (BPost ⟨kind, char, ct, true, sh, text⟩ w) := by
  have hl1 : (⟨text.toArray⟩ : ByteArray).size ≤ 999999900 := by rw [← size_len]; simpa using hl2
  have hf : form ⟨kind, char, ct, true, sh, text⟩ = 27 :: (ctl char) := by unfold form lead0; simp only; rw [if_pos ⟨by trivial, by omega⟩, if_neg h1, if_pos h2]
  have hFs : (⟨(27 :: (ctl char)).toArray⟩ : ByteArray).size ≤ 1000000000 := by rw [← size_len]; have := ctl_len char; show (27 :: (ctl char)).length ≤ 1000000000; simp only [List.length_cons, List.length_append, List.length_nil, pbeg, pend]; omega
  have hn : 27 :: (ctl char) ≠ [] := by simp
  obtain ⟨e1, e2, e3⟩ := ne3 hn
  by_cases hr : keysOf true (27 :: (ctl char)) = [⟨kind, char, ct, true, sh, text⟩]
  · exact by_2_true_t kind char ct sh text w (Lib.hid hT) hl1 hl2 (beq_false_i h1) (beq_true_i h2) (beq_false_i (by omega)) (beq_false_i (by omega)) (beq_false_i (by omega)) (beq_false_i (by omega)) ⟨(ctl char).toArray⟩ (by rw [← size_len]; have := ctl_len char; simpa using (show (ctl char).length ≤ 10 by omega)) rfl ⟨(27 :: (ctl char)).toArray⟩ (by first | rfl | (apply ext_data; rw [data_app]; rfl) | (apply ext_data; rw [data_app, data_app]; rfl)) (by rw [Lib.toList_data]; exact e1) (by rw [Lib.toList_data]; exact e2) (by rw [Lib.toList_data]; exact e3) hFs _ rfl (by show decide _ = true; rw [decide_eq_true_eq]; exact hr) (bytes_yes hf hn hr)
  · exact by_2_true_f kind char ct sh text w (Lib.hid hT) hl1 hl2 (beq_false_i h1) (beq_true_i h2) (beq_false_i (by omega)) (beq_false_i (by omega)) (beq_false_i (by omega)) (beq_false_i (by omega)) ⟨(ctl char).toArray⟩ (by rw [← size_len]; have := ctl_len char; simpa using (show (ctl char).length ≤ 10 by omega)) rfl ⟨(27 :: (ctl char)).toArray⟩ (by first | rfl | (apply ext_data; rw [data_app]; rfl) | (apply ext_data; rw [data_app, data_app]; rfl)) (by rw [Lib.toList_data]; exact e1) (by rw [Lib.toList_data]; exact e2) (by rw [Lib.toList_data]; exact e3) hFs _ rfl (by show decide _ = false; rw [decide_eq_false_iff_not]; exact hr) (bytes_no hf hr)
theorem bj_4_false (kind char : Int) (ct sh : Bool) (text : List UInt8) (w : World) (hT : Tb w) (hl2 : text.length ≤ 999999900) (hc0 : -2147483648 ≤ char) (hc1 : char ≤ 2147483647) (h1 : kind ≠ 1) (h2 : kind ≠ 2) (h4 : kind = 4) : Calls Tryd.prog 24 #[keyV ⟨kind, char, ct, false, sh, text⟩] w (BPost ⟨kind, char, ct, false, sh, text⟩ w) := by
  have hl1 : (⟨text.toArray⟩ : ByteArray).size ≤ 999999900 := by rw [← size_len]; simpa using hl2
  have hf : form ⟨kind, char, ct, false, sh, text⟩ = text := by unfold form lead0; simp only; rw [if_neg (by rintro ⟨g, g'⟩; first | (cases g; done) | omega | (simp only at g'; omega)), if_neg h1, if_neg h2, if_pos (.inl h4)]
  have hFs : (⟨(text).toArray⟩ : ByteArray).size ≤ 1000000000 := by rw [← size_len];  show (text).length ≤ 1000000000; omega
  by_cases hn : text = []
  · obtain ⟨e1, e2, e3⟩ := eq3 hn
    exact by_4_false_e kind char ct sh text w (Lib.hid hT) hl1 hl2 (beq_false_i h1) (beq_false_i h2) (beq_true_i h4) (beq_false_i (by omega)) (beq_false_i (by omega)) (beq_false_i (by omega)) e1 e2 e3 (bytes_nil (by rw [hf, hn]))
  · obtain ⟨e1, e2, e3⟩ := ne3 hn
    by_cases hr : keysOf true (text) = [⟨kind, char, ct, false, sh, text⟩]
    · exact by_4_false_t kind char ct sh text w (Lib.hid hT) hl1 hl2 (beq_false_i h1) (beq_false_i h2) (beq_true_i h4) (beq_false_i (by omega)) (beq_false_i (by omega)) (beq_false_i (by omega)) e1 e2 e3 hFs _ rfl (by show decide _ = true; rw [decide_eq_true_eq]; exact hr) (bytes_yes hf hn hr)
    · exact by_4_false_f kind char ct sh text w (Lib.hid hT) hl1 hl2 (beq_false_i h1) (beq_false_i h2) (beq_true_i h4) (beq_false_i (by omega)) (beq_false_i (by omega)) (beq_false_i (by omega)) e1 e2 e3 hFs _ rfl (by show decide _ = false; rw [decide_eq_false_iff_not]; exact hr) (bytes_no hf hr)
theorem bj_4_true (kind char : Int) (ct sh : Bool) (text : List UInt8) (w : World) (hT : Tb w) (hl2 : text.length ≤ 999999900) (hc0 : -2147483648 ≤ char) (hc1 : char ≤ 2147483647) (h1 : kind ≠ 1) (h2 : kind ≠ 2) (h4 : kind = 4) : Calls Tryd.prog 24 #[keyV ⟨kind, char, ct, true, sh, text⟩] w (BPost ⟨kind, char, ct, true, sh, text⟩ w) := by
  have hl1 : (⟨text.toArray⟩ : ByteArray).size ≤ 999999900 := by rw [← size_len]; simpa using hl2
  have hf : form ⟨kind, char, ct, true, sh, text⟩ = 27 :: text := by unfold form lead0; simp only; rw [if_pos ⟨by trivial, by omega⟩, if_neg h1, if_neg h2, if_pos (.inl h4)]
  have hFs : (⟨(27 :: text).toArray⟩ : ByteArray).size ≤ 1000000000 := by rw [← size_len];  show (27 :: text).length ≤ 1000000000; simp only [List.length_cons, List.length_append, List.length_nil, pbeg, pend]; omega
  have hn : 27 :: text ≠ [] := by simp
  obtain ⟨e1, e2, e3⟩ := ne3 hn
  by_cases hr : keysOf true (27 :: text) = [⟨kind, char, ct, true, sh, text⟩]
  · exact by_4_true_t kind char ct sh text w (Lib.hid hT) hl1 hl2 (beq_false_i h1) (beq_false_i h2) (beq_true_i h4) (beq_false_i (by omega)) (beq_false_i (by omega)) (beq_false_i (by omega)) ⟨(27 :: text).toArray⟩ (by first | rfl | (apply ext_data; rw [data_app]; rfl) | (apply ext_data; rw [data_app, data_app]; rfl)) (by rw [Lib.toList_data]; exact e1) (by rw [Lib.toList_data]; exact e2) (by rw [Lib.toList_data]; exact e3) hFs _ rfl (by show decide _ = true; rw [decide_eq_true_eq]; exact hr) (bytes_yes hf hn hr)
  · exact by_4_true_f kind char ct sh text w (Lib.hid hT) hl1 hl2 (beq_false_i h1) (beq_false_i h2) (beq_true_i h4) (beq_false_i (by omega)) (beq_false_i (by omega)) (beq_false_i (by omega)) ⟨(27 :: text).toArray⟩ (by first | rfl | (apply ext_data; rw [data_app]; rfl) | (apply ext_data; rw [data_app, data_app]; rfl)) (by rw [Lib.toList_data]; exact e1) (by rw [Lib.toList_data]; exact e2) (by rw [Lib.toList_data]; exact e3) hFs _ rfl (by show decide _ = false; rw [decide_eq_false_iff_not]; exact hr) (bytes_no hf hr)
theorem bj_18_false (kind char : Int) (ct sh : Bool) (text : List UInt8) (w : World) (hT : Tb w) (hl2 : text.length ≤ 999999900) (hc0 : -2147483648 ≤ char) (hc1 : char ≤ 2147483647) (h1 : kind ≠ 1) (h2 : kind ≠ 2) (h4 : kind ≠ 4) (h18 : kind = 18) : Calls Tryd.prog 24 #[keyV ⟨kind, char, ct, false, sh, text⟩] w (BPost ⟨kind, char, ct, false, sh, text⟩ w) := by
  have hl1 : (⟨text.toArray⟩ : ByteArray).size ≤ 999999900 := by rw [← size_len]; simpa using hl2
  have hf : form ⟨kind, char, ct, false, sh, text⟩ = text := by unfold form lead0; simp only; rw [if_neg (by rintro ⟨g, g'⟩; first | (cases g; done) | omega | (simp only at g'; omega)), if_neg h1, if_neg h2, if_pos (.inr h18)]
  have hFs : (⟨(text).toArray⟩ : ByteArray).size ≤ 1000000000 := by rw [← size_len];  show (text).length ≤ 1000000000; omega
  by_cases hn : text = []
  · obtain ⟨e1, e2, e3⟩ := eq3 hn
    exact by_18_false_e kind char ct sh text w (Lib.hid hT) hl1 hl2 (beq_false_i h1) (beq_false_i h2) (beq_false_i h4) (beq_true_i h18) (beq_false_i (by omega)) (beq_false_i (by omega)) e1 e2 e3 (bytes_nil (by rw [hf, hn]))
  · obtain ⟨e1, e2, e3⟩ := ne3 hn
    by_cases hr : keysOf true (text) = [⟨kind, char, ct, false, sh, text⟩]
    · exact by_18_false_t kind char ct sh text w (Lib.hid hT) hl1 hl2 (beq_false_i h1) (beq_false_i h2) (beq_false_i h4) (beq_true_i h18) (beq_false_i (by omega)) (beq_false_i (by omega)) e1 e2 e3 hFs _ rfl (by show decide _ = true; rw [decide_eq_true_eq]; exact hr) (bytes_yes hf hn hr)
    · exact by_18_false_f kind char ct sh text w (Lib.hid hT) hl1 hl2 (beq_false_i h1) (beq_false_i h2) (beq_false_i h4) (beq_true_i h18) (beq_false_i (by omega)) (beq_false_i (by omega)) e1 e2 e3 hFs _ rfl (by show decide _ = false; rw [decide_eq_false_iff_not]; exact hr) (bytes_no hf hr)
theorem bj_18_true (kind char : Int) (ct sh : Bool) (text : List UInt8) (w : World) (hT : Tb w) (hl2 : text.length ≤ 999999900) (hc0 : -2147483648 ≤ char) (hc1 : char ≤ 2147483647) (h1 : kind ≠ 1) (h2 : kind ≠ 2) (h4 : kind ≠ 4) (h18 : kind = 18) : Calls Tryd.prog 24 #[keyV ⟨kind, char, ct, true, sh, text⟩] w (BPost ⟨kind, char, ct, true, sh, text⟩ w) := by
  have hl1 : (⟨text.toArray⟩ : ByteArray).size ≤ 999999900 := by rw [← size_len]; simpa using hl2
  have hf : form ⟨kind, char, ct, true, sh, text⟩ = text := by unfold form lead0; simp only; rw [if_neg (by rintro ⟨g, g'⟩; first | (cases g; done) | omega | (simp only at g'; omega)), if_neg h1, if_neg h2, if_pos (.inr h18)]
  have hFs : (⟨(text).toArray⟩ : ByteArray).size ≤ 1000000000 := by rw [← size_len];  show (text).length ≤ 1000000000; omega
  by_cases hn : text = []
  · obtain ⟨e1, e2, e3⟩ := eq3 hn
    exact by_18_true_e kind char ct sh text w (Lib.hid hT) hl1 hl2 (beq_false_i h1) (beq_false_i h2) (beq_false_i h4) (beq_true_i h18) (beq_false_i (by omega)) (beq_false_i (by omega)) e1 e2 e3 (bytes_nil (by rw [hf, hn]))
  · obtain ⟨e1, e2, e3⟩ := ne3 hn
    by_cases hr : keysOf true (text) = [⟨kind, char, ct, true, sh, text⟩]
    · exact by_18_true_t kind char ct sh text w (Lib.hid hT) hl1 hl2 (beq_false_i h1) (beq_false_i h2) (beq_false_i h4) (beq_true_i h18) (beq_false_i (by omega)) (beq_false_i (by omega)) e1 e2 e3 hFs _ rfl (by show decide _ = true; rw [decide_eq_true_eq]; exact hr) (bytes_yes hf hn hr)
    · exact by_18_true_f kind char ct sh text w (Lib.hid hT) hl1 hl2 (beq_false_i h1) (beq_false_i h2) (beq_false_i h4) (beq_true_i h18) (beq_false_i (by omega)) (beq_false_i (by omega)) e1 e2 e3 hFs _ rfl (by show decide _ = false; rw [decide_eq_false_iff_not]; exact hr) (bytes_no hf hr)
theorem bj_3_false (kind char : Int) (ct sh : Bool) (text : List UInt8) (w : World) (hT : Tb w) (hl2 : text.length ≤ 999999900) (hc0 : -2147483648 ≤ char) (hc1 : char ≤ 2147483647) (h1 : kind ≠ 1) (h2 : kind ≠ 2) (h4 : kind ≠ 4) (h18 : kind ≠ 18) (h3 : kind = 3) : Calls Tryd.prog 24 #[keyV ⟨kind, char, ct, false, sh, text⟩] w (BPost ⟨kind, char, ct, false, sh, text⟩ w) := by
  have hl1 : (⟨text.toArray⟩ : ByteArray).size ≤ 999999900 := by rw [← size_len]; simpa using hl2
  have hf : form ⟨kind, char, ct, false, sh, text⟩ = [27] := by unfold form lead0; simp only; rw [if_neg (by rintro ⟨g, g'⟩; first | (cases g; done) | omega | (simp only at g'; omega)), if_neg h1, if_neg h2, if_neg (by omega), if_pos h3]
  have hFs : (⟨([27]).toArray⟩ : ByteArray).size ≤ 1000000000 := by rw [← size_len];  show ([27]).length ≤ 1000000000; simp only [List.length_cons, List.length_append, List.length_nil, pbeg, pend]; omega
  have hn : [27] ≠ [] := by simp
  by_cases hr : keysOf true ([27]) = [⟨kind, char, ct, false, sh, text⟩]
  · exact by_3_false_t kind char ct sh text w (Lib.hid hT) hl1 hl2 (beq_false_i h1) (beq_false_i h2) (beq_false_i h4) (beq_false_i h18) (beq_true_i h3) (beq_false_i (by omega)) hFs _ rfl (by show decide _ = true; rw [decide_eq_true_eq]; exact hr) (bytes_yes hf (List.cons_ne_nil _ _) hr)
  · exact by_3_false_f kind char ct sh text w (Lib.hid hT) hl1 hl2 (beq_false_i h1) (beq_false_i h2) (beq_false_i h4) (beq_false_i h18) (beq_true_i h3) (beq_false_i (by omega)) hFs _ rfl (by show decide _ = false; rw [decide_eq_false_iff_not]; exact hr) (bytes_no hf hr)
theorem bj_3_true (kind char : Int) (ct sh : Bool) (text : List UInt8) (w : World) (hT : Tb w) (hl2 : text.length ≤ 999999900) (hc0 : -2147483648 ≤ char) (hc1 : char ≤ 2147483647) (h1 : kind ≠ 1) (h2 : kind ≠ 2) (h4 : kind ≠ 4) (h18 : kind ≠ 18) (h3 : kind = 3) : Calls Tryd.prog 24 #[keyV ⟨kind, char, ct, true, sh, text⟩] w (BPost ⟨kind, char, ct, true, sh, text⟩ w) := by
  have hl1 : (⟨text.toArray⟩ : ByteArray).size ≤ 999999900 := by rw [← size_len]; simpa using hl2
  have hf : form ⟨kind, char, ct, true, sh, text⟩ = [27] := by unfold form lead0; simp only; rw [if_neg (by rintro ⟨g, g'⟩; first | (cases g; done) | omega | (simp only at g'; omega)), if_neg h1, if_neg h2, if_neg (by omega), if_pos h3]
  have hFs : (⟨([27]).toArray⟩ : ByteArray).size ≤ 1000000000 := by rw [← size_len];  show ([27]).length ≤ 1000000000; simp only [List.length_cons, List.length_append, List.length_nil, pbeg, pend]; omega
  have hn : [27] ≠ [] := by simp
  by_cases hr : keysOf true ([27]) = [⟨kind, char, ct, true, sh, text⟩]
  · exact by_3_true_t kind char ct sh text w (Lib.hid hT) hl1 hl2 (beq_false_i h1) (beq_false_i h2) (beq_false_i h4) (beq_false_i h18) (beq_true_i h3) (beq_false_i (by omega)) hFs _ rfl (by show decide _ = true; rw [decide_eq_true_eq]; exact hr) (bytes_yes hf (List.cons_ne_nil _ _) hr)
  · exact by_3_true_f kind char ct sh text w (Lib.hid hT) hl1 hl2 (beq_false_i h1) (beq_false_i h2) (beq_false_i h4) (beq_false_i h18) (beq_true_i h3) (beq_false_i (by omega)) hFs _ rfl (by show decide _ = false; rw [decide_eq_false_iff_not]; exact hr) (bytes_no hf hr)
theorem bj_17_false (kind char : Int) (ct sh : Bool) (text : List UInt8) (w : World) (hT : Tb w) (hl2 : text.length ≤ 999999900) (hc0 : -2147483648 ≤ char) (hc1 : char ≤ 2147483647) (h1 : kind ≠ 1) (h2 : kind ≠ 2) (h4 : kind ≠ 4) (h18 : kind ≠ 18) (h3 : kind ≠ 3) (h17 : kind = 17) : Calls Tryd.prog 24 #[keyV ⟨kind, char, ct, false, sh, text⟩] w (BPost ⟨kind, char, ct, false, sh, text⟩ w) := by
  have hl1 : (⟨text.toArray⟩ : ByteArray).size ≤ 999999900 := by rw [← size_len]; simpa using hl2
  have hf : form ⟨kind, char, ct, false, sh, text⟩ = pbeg ++ text ++ pend := by unfold form lead0; simp only; rw [if_neg (by rintro ⟨g, g'⟩; first | (cases g; done) | omega | (simp only at g'; omega)), if_neg h1, if_neg h2, if_neg (by omega), if_neg h3, if_pos h17]
  have hFs : (⟨(pbeg ++ text ++ pend).toArray⟩ : ByteArray).size ≤ 1000000000 := by rw [← size_len];  show (pbeg ++ text ++ pend).length ≤ 1000000000; simp only [List.length_cons, List.length_append, List.length_nil, pbeg, pend]; omega
  have hn : pbeg ++ text ++ pend ≠ [] := by simp [pbeg]
  obtain ⟨e1, e2, e3⟩ := ne3 hn
  by_cases hr : keysOf true (pbeg ++ text ++ pend) = [⟨kind, char, ct, false, sh, text⟩]
  · exact by_17_false_t kind char ct sh text w (Lib.hid hT) hl1 hl2 (beq_false_i h1) (beq_false_i h2) (beq_false_i h4) (beq_false_i h18) (beq_false_i h3) (beq_true_i h17) ⟨(pbeg ++ text ++ pend).toArray⟩ (by first | rfl | (apply ext_data; rw [data_app]; rfl) | (apply ext_data; rw [data_app, data_app]; rfl)) (by rw [Lib.toList_data]; exact e1) (by rw [Lib.toList_data]; exact e2) (by rw [Lib.toList_data]; exact e3) hFs _ rfl (by show decide _ = true; rw [decide_eq_true_eq]; exact hr) (bytes_yes hf hn hr)
  · exact by_17_false_f kind char ct sh text w (Lib.hid hT) hl1 hl2 (beq_false_i h1) (beq_false_i h2) (beq_false_i h4) (beq_false_i h18) (beq_false_i h3) (beq_true_i h17) ⟨(pbeg ++ text ++ pend).toArray⟩ (by first | rfl | (apply ext_data; rw [data_app]; rfl) | (apply ext_data; rw [data_app, data_app]; rfl)) (by rw [Lib.toList_data]; exact e1) (by rw [Lib.toList_data]; exact e2) (by rw [Lib.toList_data]; exact e3) hFs _ rfl (by show decide _ = false; rw [decide_eq_false_iff_not]; exact hr) (bytes_no hf hr)
theorem bj_17_true (kind char : Int) (ct sh : Bool) (text : List UInt8) (w : World) (hT : Tb w) (hl2 : text.length ≤ 999999900) (hc0 : -2147483648 ≤ char) (hc1 : char ≤ 2147483647) (h1 : kind ≠ 1) (h2 : kind ≠ 2) (h4 : kind ≠ 4) (h18 : kind ≠ 18) (h3 : kind ≠ 3) (h17 : kind = 17) : Calls Tryd.prog 24 #[keyV ⟨kind, char, ct, true, sh, text⟩] w (BPost ⟨kind, char, ct, true, sh, text⟩ w) := by
  have hl1 : (⟨text.toArray⟩ : ByteArray).size ≤ 999999900 := by rw [← size_len]; simpa using hl2
  have hf : form ⟨kind, char, ct, true, sh, text⟩ = pbeg ++ text ++ pend := by unfold form lead0; simp only; rw [if_neg (by rintro ⟨g, g'⟩; first | (cases g; done) | omega | (simp only at g'; omega)), if_neg h1, if_neg h2, if_neg (by omega), if_neg h3, if_pos h17]
  have hFs : (⟨(pbeg ++ text ++ pend).toArray⟩ : ByteArray).size ≤ 1000000000 := by rw [← size_len];  show (pbeg ++ text ++ pend).length ≤ 1000000000; simp only [List.length_cons, List.length_append, List.length_nil, pbeg, pend]; omega
  have hn : pbeg ++ text ++ pend ≠ [] := by simp [pbeg]
  obtain ⟨e1, e2, e3⟩ := ne3 hn
  by_cases hr : keysOf true (pbeg ++ text ++ pend) = [⟨kind, char, ct, true, sh, text⟩]
  · exact by_17_true_t kind char ct sh text w (Lib.hid hT) hl1 hl2 (beq_false_i h1) (beq_false_i h2) (beq_false_i h4) (beq_false_i h18) (beq_false_i h3) (beq_true_i h17) ⟨(pbeg ++ text ++ pend).toArray⟩ (by first | rfl | (apply ext_data; rw [data_app]; rfl) | (apply ext_data; rw [data_app, data_app]; rfl)) (by rw [Lib.toList_data]; exact e1) (by rw [Lib.toList_data]; exact e2) (by rw [Lib.toList_data]; exact e3) hFs _ rfl (by show decide _ = true; rw [decide_eq_true_eq]; exact hr) (bytes_yes hf hn hr)
  · exact by_17_true_f kind char ct sh text w (Lib.hid hT) hl1 hl2 (beq_false_i h1) (beq_false_i h2) (beq_false_i h4) (beq_false_i h18) (beq_false_i h3) (beq_true_i h17) ⟨(pbeg ++ text ++ pend).toArray⟩ (by first | rfl | (apply ext_data; rw [data_app]; rfl) | (apply ext_data; rw [data_app, data_app]; rfl)) (by rw [Lib.toList_data]; exact e1) (by rw [Lib.toList_data]; exact e2) (by rw [Lib.toList_data]; exact e3) hFs _ rfl (by show decide _ = false; rw [decide_eq_false_iff_not]; exact hr) (bytes_no hf hr)
theorem bj_0_false (kind char : Int) (ct sh : Bool) (text : List UInt8) (w : World) (hT : Tb w) (hl2 : text.length ≤ 999999900) (hc0 : -2147483648 ≤ char) (hc1 : char ≤ 2147483647) (h1 : kind ≠ 1) (h2 : kind ≠ 2) (h4 : kind ≠ 4) (h18 : kind ≠ 18) (h3 : kind ≠ 3) (h17 : kind ≠ 17) : Calls Tryd.prog 24 #[keyV ⟨kind, char, ct, false, sh, text⟩] w (BPost ⟨kind, char, ct, false, sh, text⟩ w) := by
  have hl1 : (⟨text.toArray⟩ : ByteArray).size ≤ 999999900 := by rw [← size_len]; simpa using hl2
  have hf : form ⟨kind, char, ct, false, sh, text⟩ = seqL ⟨kind, char, ct, false, sh, text⟩ := by unfold form lead0; simp only; rw [if_neg (by rintro ⟨g, g'⟩; first | (cases g; done) | omega | (simp only at g'; omega)), if_neg h1, if_neg h2, if_neg (by omega), if_neg h3, if_neg h17]
  have hFs : (⟨(seqL ⟨kind, char, ct, false, sh, text⟩).toArray⟩ : ByteArray).size ≤ 1000000000 := by rw [← size_len]; have := seqL_len ⟨kind, char, ct, false, sh, text⟩; show (seqL ⟨kind, char, ct, false, sh, text⟩).length ≤ 1000000000; omega
  by_cases hn : seqL ⟨kind, char, ct, false, sh, text⟩ = []
  · obtain ⟨e1, e2, e3⟩ := eq3 hn
    exact by_0_false_e kind char ct sh text w (Lib.hid hT) hl1 hl2 (beq_false_i h1) (beq_false_i h2) (beq_false_i h4) (beq_false_i h18) (beq_false_i h3) (beq_false_i h17) ⟨(seqL ⟨kind, char, ct, false, sh, text⟩).toArray⟩ (by rw [← size_len]; simpa using seqL_len ⟨kind, char, ct, false, sh, text⟩) rfl (by rw [Lib.toList_data]; exact e1) (by rw [Lib.toList_data]; exact e2) (by rw [Lib.toList_data]; exact e3) (bytes_nil (by rw [hf, hn]))
  · obtain ⟨e1, e2, e3⟩ := ne3 hn
    by_cases hr : keysOf true (seqL ⟨kind, char, ct, false, sh, text⟩) = [⟨kind, char, ct, false, sh, text⟩]
    · exact by_0_false_t kind char ct sh text w (Lib.hid hT) hl1 hl2 (beq_false_i h1) (beq_false_i h2) (beq_false_i h4) (beq_false_i h18) (beq_false_i h3) (beq_false_i h17) ⟨(seqL ⟨kind, char, ct, false, sh, text⟩).toArray⟩ (by rw [← size_len]; simpa using seqL_len ⟨kind, char, ct, false, sh, text⟩) rfl (by rw [Lib.toList_data]; exact e1) (by rw [Lib.toList_data]; exact e2) (by rw [Lib.toList_data]; exact e3) hFs _ rfl (by show decide _ = true; rw [decide_eq_true_eq]; exact hr) (bytes_yes hf hn hr)
    · exact by_0_false_f kind char ct sh text w (Lib.hid hT) hl1 hl2 (beq_false_i h1) (beq_false_i h2) (beq_false_i h4) (beq_false_i h18) (beq_false_i h3) (beq_false_i h17) ⟨(seqL ⟨kind, char, ct, false, sh, text⟩).toArray⟩ (by rw [← size_len]; simpa using seqL_len ⟨kind, char, ct, false, sh, text⟩) rfl (by rw [Lib.toList_data]; exact e1) (by rw [Lib.toList_data]; exact e2) (by rw [Lib.toList_data]; exact e3) hFs _ rfl (by show decide _ = false; rw [decide_eq_false_iff_not]; exact hr) (bytes_no hf hr)
theorem bj_0_true (kind char : Int) (ct sh : Bool) (text : List UInt8) (w : World) (hT : Tb w) (hl2 : text.length ≤ 999999900) (hc0 : -2147483648 ≤ char) (hc1 : char ≤ 2147483647) (h1 : kind ≠ 1) (h2 : kind ≠ 2) (h4 : kind ≠ 4) (h18 : kind ≠ 18) (h3 : kind ≠ 3) (h17 : kind ≠ 17) : Calls Tryd.prog 24 #[keyV ⟨kind, char, ct, true, sh, text⟩] w (BPost ⟨kind, char, ct, true, sh, text⟩ w) := by
  have hl1 : (⟨text.toArray⟩ : ByteArray).size ≤ 999999900 := by rw [← size_len]; simpa using hl2
  have hf : form ⟨kind, char, ct, true, sh, text⟩ = seqL ⟨kind, char, ct, true, sh, text⟩ := by unfold form lead0; simp only; rw [if_neg (by rintro ⟨g, g'⟩; first | (cases g; done) | omega | (simp only at g'; omega)), if_neg h1, if_neg h2, if_neg (by omega), if_neg h3, if_neg h17]
  have hFs : (⟨(seqL ⟨kind, char, ct, true, sh, text⟩).toArray⟩ : ByteArray).size ≤ 1000000000 := by rw [← size_len]; have := seqL_len ⟨kind, char, ct, true, sh, text⟩; show (seqL ⟨kind, char, ct, true, sh, text⟩).length ≤ 1000000000; omega
  by_cases hn : seqL ⟨kind, char, ct, true, sh, text⟩ = []
  · obtain ⟨e1, e2, e3⟩ := eq3 hn
    exact by_0_true_e kind char ct sh text w (Lib.hid hT) hl1 hl2 (beq_false_i h1) (beq_false_i h2) (beq_false_i h4) (beq_false_i h18) (beq_false_i h3) (beq_false_i h17) ⟨(seqL ⟨kind, char, ct, true, sh, text⟩).toArray⟩ (by rw [← size_len]; simpa using seqL_len ⟨kind, char, ct, true, sh, text⟩) rfl (by rw [Lib.toList_data]; exact e1) (by rw [Lib.toList_data]; exact e2) (by rw [Lib.toList_data]; exact e3) (bytes_nil (by rw [hf, hn]))
  · obtain ⟨e1, e2, e3⟩ := ne3 hn
    by_cases hr : keysOf true (seqL ⟨kind, char, ct, true, sh, text⟩) = [⟨kind, char, ct, true, sh, text⟩]
    · exact by_0_true_t kind char ct sh text w (Lib.hid hT) hl1 hl2 (beq_false_i h1) (beq_false_i h2) (beq_false_i h4) (beq_false_i h18) (beq_false_i h3) (beq_false_i h17) ⟨(seqL ⟨kind, char, ct, true, sh, text⟩).toArray⟩ (by rw [← size_len]; simpa using seqL_len ⟨kind, char, ct, true, sh, text⟩) rfl (by rw [Lib.toList_data]; exact e1) (by rw [Lib.toList_data]; exact e2) (by rw [Lib.toList_data]; exact e3) hFs _ rfl (by show decide _ = true; rw [decide_eq_true_eq]; exact hr) (bytes_yes hf hn hr)
    · exact by_0_true_f kind char ct sh text w (Lib.hid hT) hl1 hl2 (beq_false_i h1) (beq_false_i h2) (beq_false_i h4) (beq_false_i h18) (beq_false_i h3) (beq_false_i h17) ⟨(seqL ⟨kind, char, ct, true, sh, text⟩).toArray⟩ (by rw [← size_len]; simpa using seqL_len ⟨kind, char, ct, true, sh, text⟩) rfl (by rw [Lib.toList_data]; exact e1) (by rw [Lib.toList_data]; exact e2) (by rw [Lib.toList_data]; exact e3) hFs _ rfl (by show decide _ = false; rw [decide_eq_false_iff_not]; exact hr) (bytes_no hf hr)
theorem bytes_calls (k : Key) (w : World) (hT : Tb w) (hl2 : k.text.length ≤ 999999900) (hc0 : -2147483648 ≤ k.char) (hc1 : k.char ≤ 2147483647) : Calls Tryd.prog 24 #[keyV k] w (BPost k w) := by
  obtain ⟨kind, char, ct, mt, sh, text⟩ := k
  simp only at hl2 hc0 hc1
  by_cases h1 : kind = 1
  · cases mt
    · exact bj_1_false kind char ct sh text w hT hl2 hc0 hc1 h1
    · exact bj_1_true kind char ct sh text w hT hl2 hc0 hc1 h1
  by_cases h2 : kind = 2
  · cases mt
    · exact bj_2_false kind char ct sh text w hT hl2 hc0 hc1 h1 h2
    · exact bj_2_true kind char ct sh text w hT hl2 hc0 hc1 h1 h2
  by_cases h4 : kind = 4
  · cases mt
    · exact bj_4_false kind char ct sh text w hT hl2 hc0 hc1 h1 h2 h4
    · exact bj_4_true kind char ct sh text w hT hl2 hc0 hc1 h1 h2 h4
  by_cases h18 : kind = 18
  · cases mt
    · exact bj_18_false kind char ct sh text w hT hl2 hc0 hc1 h1 h2 h4 h18
    · exact bj_18_true kind char ct sh text w hT hl2 hc0 hc1 h1 h2 h4 h18
  by_cases h3 : kind = 3
  · cases mt
    · exact bj_3_false kind char ct sh text w hT hl2 hc0 hc1 h1 h2 h4 h18 h3
    · exact bj_3_true kind char ct sh text w hT hl2 hc0 hc1 h1 h2 h4 h18 h3
  by_cases h17 : kind = 17
  · cases mt
    · exact bj_17_false kind char ct sh text w hT hl2 hc0 hc1 h1 h2 h4 h18 h3 h17
    · exact bj_17_true kind char ct sh text w hT hl2 hc0 hc1 h1 h2 h4 h18 h3 h17
  cases mt
  · exact bj_0_false kind char ct sh text w hT hl2 hc0 hc1 h1 h2 h4 h18 h3 h17
  · exact bj_0_true kind char ct sh text w hT hl2 hc0 hc1 h1 h2 h4 h18 h3 h17
end Go.Proofs.YtjjilhfebkeoeaaDoor.Ky
/- same, fed, fixed: walked. -/
namespace Go.Proofs.YtjjilhfebkeoeaaDoor.Ky
open Go Go.RowKit Go.Proofs.YtjjilhfebkeoeaaDoor.PKy
open Go.Proofs.YtjjilhfebkeoeaaDoorW.PrintWords (bt rdOf Kd Drawn0 Reps Aside0)
open Go.Proofs.YtjjilhfebkeoeaaDoor.Wk (bcell bel_drew bel_drewN bel_alloc bel_set bel_call size_len mk_data beq_true_i bne_true_i bne_false_i beq_false_i drop_cons var_below blk_alloc blk_below blk_drewN blk_cell blk_frozen blk_far blk_set blk_lt own_slice own_below cells_new)
set_option linter.unusedVariables false
set_option linter.unusedSimpArgs false



theorem same_from (n : Nat) : ∀ (k : Nat) (x y : List S50) (i : Nat), x.length = y.length → x.length ≤ 1000000000 → x.length - i = n → i ≤ x.length → n < k → bodkinlaw18_same.l0 k x y (i : Int) = some (@decide (x.drop i = y.drop i) (Classical.propDecidable _)) := by
  induction n with
  | zero =>
    intro k x y i hl hb hn hi hk
    obtain ⟨k, rfl⟩ : ∃ m, k = m + 1 := ⟨k - 1, by omega⟩
    simp only [bodkinlaw18_same.l0]
    rw [if_neg (by omega), List.drop_of_length_le (by omega), List.drop_of_length_le (by omega)]; simp
  | succ n ih =>
    intro k x y i hl hb hn hi hk
    obtain ⟨k, rfl⟩ : ∃ m, k = m + 1 := ⟨k - 1, by omega⟩
    have hx : i < x.length := by omega
    have hy : i < y.length := by omega
    simp only [bodkinlaw18_same.l0]
    rw [if_pos (by omega), if_pos (by omega), if_pos (by omega)]
    have e1 : rd_T50 x (i : Int) = x[i] := by unfold rd_T50; rw [Int.toNat_natCast, List.getD_eq_getElem?_getD, List.getElem?_eq_getElem hx]; rfl
    have e2 : rd_T50 y (i : Int) = y[i] := by unfold rd_T50; rw [Int.toNat_natCast, List.getD_eq_getElem?_getD, List.getElem?_eq_getElem hy]; rfl
    rw [e1, e2, List.drop_eq_getElem_cons hx, List.drop_eq_getElem_cons hy]
    have hw : wrap64 ((i : Int) + 1) = ((i + 1 : Nat) : Int) := by unfold wrap64; omega
    have heq : (eqb50 x[i].f0 y[i].f0 x[i].f1 y[i].f1 x[i].f2 y[i].f2 x[i].f3 y[i].f3 x[i].f4 y[i].f4 x[i].f5 y[i].f5) = @decide (x[i] = y[i]) (Classical.propDecidable _) := by
      rw [Bool.eq_iff_iff]
      unfold eqb50
      simp only [Bool.and_eq_true, beq_iff_eq, decide_eq_true_eq, Lib.toList_data]
      generalize x[i] = a
      generalize y[i] = b
      cases a; cases b
      simp only [S50.mk.injEq]
      constructor
      · rintro ⟨h0, h1, h2, h3, h4, h5⟩; exact ⟨h0, h1, h2, h3, h4, ext_data h5⟩
      · rintro ⟨h0, h1, h2, h3, h4, h5⟩; exact ⟨h0, h1, h2, h3, h4, by rw [h5]⟩
    rw [heq]
    by_cases h : x[i] = y[i]
    · rw [if_pos (by simpa using h), hw, ih k x y (i + 1) hl hb (by omega) (by omega) (by omega)]
      congr 1; rw [Bool.eq_iff_iff]; simp only [decide_eq_true_eq, List.cons.injEq]; exact ⟨fun g => ⟨h, g⟩, fun g => g.2⟩
    · rw [if_neg (by simpa using h)]
      congr 1; symm; rw [decide_eq_false_iff_not]; intro g; exact h (List.cons.inj g).1
theorem same_f (L M : List Key) (hb : L.length ≤ 1000000000) : bodkinlaw18_same.f (L.length + 1) (L.map toS) (M.map toS) = some (decide (L = M)) := by
  unfold bodkinlaw18_same.f
  rw [List.length_map, List.length_map]
  by_cases h : L.length = M.length
  · rw [if_pos (by omega)]
    have := same_from L.length (L.length + 1) (L.map toS) (M.map toS) 0 (by simp [h]) (by simpa using hb) (by simp) (by simp) (by omega)
    rw [show (0 : Int) = ((0 : Nat) : Int) from rfl, this]
    congr 1
    rw [Bool.eq_iff_iff]
    simp only [decide_eq_true_eq, List.drop_zero]
    constructor
    · intro g; exact List.map_inj_right (fun _ _ g => toS_inj g) |>.mp g
    · rintro rfl; rfl
  · rw [if_neg (by omega)]
    congr 1
    symm
    rw [decide_eq_false_iff_not]
    rintro rfl; exact h rfl
theorem same_dec (L M : List Key) (hb : L.length ≤ 1000000000) (A A' : Option Addr) (c c' : Nat) (w : World) (hC : Kd.C k50 w A L.length (L.map toS)) (hc : L.length ≤ c) (hC' : Kd.C k50 w A' M.length (M.map toS)) (hc' : M.length ≤ c') :
    Calls Tryd.prog 18 #[.slice A L.length c, .slice A' M.length c'] w fun e w' => e = .returned (.bool (decide (L = M))) ∧ ∃ n, w' = w.drewN n := by
  have h := bodkinlaw18_same.calls (L.length + 1) A c (L.map toS) A' c' (M.map toS) (decide (L = M)) w (by rw [List.length_map]; exact hC) (by rw [List.length_map]; exact hc) (by rw [List.length_map]; exact hC') (by rw [List.length_map]; exact hc') (same_f L M hb)
  rw [List.length_map, List.length_map] at h
  exact h.mono (by rintro e w' ⟨rfl, ⟨nd, rfl⟩⟩; exact ⟨rfl, nd, rfl⟩)
theorem same_yes (L : List Key) (hb : L.length ≤ 1000000000) (A A' : Option Addr) (c c' : Nat) (w : World) (hC : Kd.C k50 w A L.length (L.map toS)) (hc : L.length ≤ c) (hC' : Kd.C k50 w A' L.length (L.map toS)) (hc' : L.length ≤ c') :
    Calls Tryd.prog 18 #[.slice A L.length c, .slice A' L.length c'] w fun e w' => e = .returned (.bool true) ∧ ∃ n, w' = w.drewN n :=
  (same_dec L L hb A A' c c' w hC hc hC' hc').mono (by rintro e w' ⟨rfl, hn⟩; exact ⟨by simp, hn⟩)
/-- A literal row of keys. -/
theorem lit_C {W : World} {g : Nat} {L : List Key} (h : W.heap[g]? = some (.cells (kc L).toArray 50 (0, 0))) (hb : L.length ≤ 1000000000) : Kd.C k50 W (some ⟨g, 0, none⟩) L.length (L.map toS) := by
  refine ⟨by simp, by omega, fun _ => ⟨_, rfl, fun j p hp => ?_⟩⟩
  rw [List.getElem?_map] at hp
  obtain ⟨k, hk, rfl⟩ := Option.map_eq_some_iff.mp hp
  refine ⟨kcells k, rfl, k50_mk W (toS k), fun i u hu => ?_⟩
  have h1 := kc_at L j k hk i u hu
  have ha : (⟨g, 0, none⟩ : Addr).add (j * 6 + i) = ⟨g, j * 6 + i, none⟩ := by unfold Addr.add; split <;> simp_all
  show W.cell? ((⟨g, 0, none⟩ : Addr).add (j * 6 + i)) = some u
  rw [ha, blk_cell h]
  simpa using h1
theorem own_Cn {W : World} {B n : Nat} {v : Value} {L : List Key} (h : Own W B v L) (hn : L.length = n) : ∃ A c, v = .slice A n c ∧ n ≤ c ∧ Kd.C k50 W A n (L.map toS) := by subst hn; exact own_C h
theorem same_n (L : List Key) (n : Nat) (hn : L.length = n) (hb : n ≤ 1000000000) (A A' : Option Addr) (c c' : Nat) (w : World) (hC : Kd.C k50 w A n (L.map toS)) (hc : n ≤ c) (hC' : Kd.C k50 w A' n (L.map toS)) (hc' : n ≤ c') :
    Calls Tryd.prog 18 #[.slice A n c, .slice A' n c'] w fun e w' => e = .returned (.bool true) ∧ ∃ m, w' = w.drewN m := by
  subst hn; exact same_yes L hb A A' c c' w hC hc hC' hc'
theorem C_below {α : Type} {k : Kd α} {W W1 : World} {A : Option Addr} {n : Nat} {xs : List α} (hk : ∀ x c, k.K W x c → k.K W1 x c) (h : Kd.C k W A n xs) (hb : Below W.heap.size W W1) : Kd.C k W1 A n xs := by
  refine ⟨h.1, h.2.1, fun hn => ?_⟩
  obtain ⟨ad, ea, hh⟩ := h.2.2 hn
  refine ⟨ad, ea, fun j p hp => ?_⟩
  obtain ⟨c, h1, h2, h3⟩ := hh j p hp
  exact ⟨c, h1, hk _ _ h2, fun i u hu => (hb.cell (World.block_lt_of_cell? _ _ (h3 i u hu))).trans (h3 i u hu)⟩
theorem k50_any {W W1 : World} (x : S50) (c : List Value) (h : k50.K W x c) : k50.K W1 x c := by rw [k50_open h]; exact k50_mk W1 x
theorem Ck_below {W W1 : World} {A : Option Addr} {n : Nat} {xs : List S50} (h : Kd.C k50 W A n xs) (hb : Below W.heap.size W W1) : Kd.C k50 W1 A n xs := C_below k50_any h hb
/-- Under a change of one other block. -/
theorem Own_grown {W W1 : World} {B g : Nat} {v : Value} {L : List Key} (h : Own W B v L) (hg : W.grownBy W1 (some g)) (hne : ∀ k, v.ownBlock = some k → k ≠ g) : Own W1 B v L :=
  World.ownsRow.kept h hg (by
    cases hv : v.ownBlock with
    | none => exact .inl rfl
    | some k => exact .inr (fun e => hne k hv (by cases e; rfl)))
theorem alloc2_at (w : World) (o : Obj) (cs : Array Value) (t : TypeId) : ((w.alloc o).alloc (.cells cs t)).heap[w.heap.size + 1]? = some (.cells cs t (0, 0)) := by
  have := heap_alloc_new (w.alloc o) (.cells cs t)
  rwa [Wk.size_alloc] at this
def fixL : List Key := [⟨1, 97, false, false, false, []⟩, ⟨2, 65, true, false, false, []⟩, ⟨7, 0, true, false, false, []⟩, ⟨18, 0, false, false, false, [27, 79, 120]⟩, ⟨4, 0, false, false, false, [255]⟩, ⟨1, 98, false, true, false, []⟩]
def fixS : List UInt8 := [97, 1, 27, 91, 49, 59, 53, 67, 27, 79, 120, 255, 27, 98]
theorem fix_keys : keysOf true fixS = fixL := by decide +kernel
theorem fix_f1 : keysOf false [27, 91] = [] ∧ held false [27, 91] = [27, 91] := by decide +kernel
theorem fix_f2 : keysOf false [27, 91, 65] = [⟨5, 0, false, false, false, []⟩] ∧ held false [27, 91, 65] = [] := by decide +kernel
theorem fix_by : bytesOf ⟨5, 0, true, false, false, []⟩ = ([27, 91, 49, 59, 53, 65], true) := by decide +kernel
theorem fixby_calls (w : World) (hT : Tb w) : Calls Tryd.prog 24 #[.agg #[.int .i64 5, .int .i32 0, .bool true, .bool false, .bool false, .string ⟨#[]⟩]] w fun e w' => e = .returned (.tuple #[.string ⟨#[27, 91, 49, 59, 53, 65]⟩, .bool true]) ∧ Below w.heap.size w w' :=
  (bytes_calls ⟨5, 0, true, false, false, []⟩ w hT (by decide) (by decide) (by decide)).mono (by
    rintro e w' ⟨rfl, hb⟩
    rw [fix_by]
    exact ⟨rfl, hb⟩)
set_option maxHeartbeats 4000000 in
set_option maxRecDepth 1000000 in
theorem fixed_calls (w : World) (hT : Tb w) : Calls Tryd.prog 16 #[] w fun e w' => e = .returned (.bool true) ∧ Below w.heap.size w w' := by
  have HT := Lib.hid hT
  have hs0 : (⟨#[97, 1, 27, 91, 49, 59, 53, 67, 27, 79, 120, 255, 27, 98]⟩ : ByteArray).size ≤ 1000000000 := by decide
  have HK : Hid (keysOf true (⟨#[97, 1, 27, 91, 49, 59, 53, 67, 27, 79, 120, 255, 27, 98]⟩ : ByteArray).data.toList = fixL) := fix_keys
  have hs1 : (⟨#[]⟩ : ByteArray).size + (⟨#[27, 91]⟩ : ByteArray).size ≤ 1000000000 := by decide
  have hs2 : (⟨#[27, 91]⟩ : ByteArray).size + (⟨#[65]⟩ : ByteArray).size ≤ 1000000000 := by decide
  have HF1 : Hid (keysOf false ((⟨#[]⟩ : ByteArray) ++ (⟨#[27, 91]⟩ : ByteArray)).data.toList = []) := fix_f1.1
  have HG1 : Hid (held false ((⟨#[]⟩ : ByteArray) ++ (⟨#[27, 91]⟩ : ByteArray)).data.toList = [27, 91]) := fix_f1.2
  have HF2 : Hid (keysOf false ((⟨#[27, 91]⟩ : ByteArray) ++ (⟨#[65]⟩ : ByteArray)).data.toList = [⟨5, 0, false, false, false, []⟩]) := fix_f2.1
  have HG2 : Hid (held false ((⟨#[27, 91]⟩ : ByteArray) ++ (⟨#[65]⟩ : ByteArray)).data.toList = []) := fix_f2.2
  clear hT
  go_enter Tryd.func16, Tryd.ntmps16
  go_wp2_with (first
    | (go_at_call 35; (with_reducible refine (Nx.next_a _).mono ?_); rintro e w1 ⟨rfl, hb1⟩; have HB1 := Lib.hid hb1; clear hb1)
    | (go_at_call 14; (with_reducible refine (decode_all _ hs0 _ (HT.out.below HB1.out)).mono ?_); rintro e w2 ⟨v, rfl, ho, hb2⟩; rw [HK.out] at ho; obtain ⟨A, c, rfl, hc, hC⟩ := own_Cn (n := 6) ho rfl; have HB2 := Lib.hid (bel_call HB1.out hb2); have HC := Lib.hid hC; clear ho hC hb2)
    | (go_at_call 19; (with_reducible refine (new_calls _).mono ?_); rintro e w3 ⟨rfl, rfl⟩)
    | (go_at_call 18; (with_reducible refine (same_n fixL 6 rfl (by decide) A _ c 6 _ (Ck_below HC.out (bel_alloc (bel_a _ _) _)) hc (lit_C (L := fixL) (Wk.blk_alloc (heap_alloc_new w2 _) _) (by decide)) (Nat.le_refl _)).mono ?_); rintro e w4 ⟨rfl, n1, rfl⟩)
    | (go_at_call 20; (with_reducible refine (feed_calls (w2.heap.size + 1) ⟨#[]⟩ ⟨#[27, 91]⟩ hs1 _ (HT.out.below (bel_drewN (bel_alloc (bel_alloc HB2.out _) _) _)) (blk_drewN (alloc2_at w2 _ _ _) n1)).mono ?_); rintro e w5 ⟨v5, rfl, ho5, hg5, hb5⟩; rw [HF1.out] at ho5; rw [HG1.out] at hb5; obtain ⟨A5, c5, rfl, hc5, hC5⟩ := own_Cn (n := 0) ho5 rfl; have HB5 := Lib.hid (bel_gb (bel_drewN (bel_alloc (bel_alloc HB2.out _) _) n1) hg5 (Nat.le_trans HB2.out.size (Nat.le_succ _))); have HD5 := Lib.hid hb5; clear ho5 hg5 hb5 hC5)
    | (go_at_call 22; (with_reducible refine (held_calls (w2.heap.size + 1) _ _ HD5.out).mono ?_); rintro e w6 ⟨rfl, rfl⟩)
    | (go_at_call 24; (with_reducible refine (fixby_calls _ (HT.out.below HB5.out)).mono ?_); rintro e w7 ⟨rfl, hb7⟩; have HB7 := Lib.hid (bel_call HB5.out hb7); have HD7 := Lib.hid (blk_below HD5.out hb7); clear hb7)
    | (go_at_call 20; (with_reducible refine (feed_calls (w2.heap.size + 1) ⟨#[27, 91]⟩ ⟨#[65]⟩ hs2 _ (HT.out.below HB7.out) HD7.out).mono ?_); rintro e w8 ⟨v8, rfl, ho8, hg8, hb8⟩; rw [HF2.out] at ho8; rw [HG2.out] at hb8; obtain ⟨A8, c8, rfl, hc8, hC8⟩ := own_Cn (n := 1) ho8 rfl; have HB8 := Lib.hid (bel_gb HB7.out hg8 (Nat.le_trans HB2.out.size (Nat.le_succ _))); have HD8 := Lib.hid hb8; have HC8 := Lib.hid hC8; clear ho8 hg8 hb8 hC8)
    | (go_at_call 18; (with_reducible refine (same_n [⟨5, 0, false, false, false, []⟩] 1 rfl (by decide) A8 _ c8 1 _ (Ck_below HC8.out (bel_a _ _)) hc8 (lit_C (L := [⟨5, 0, false, false, false, []⟩]) (heap_alloc_new w8 _) (by decide)) (Nat.le_refl _)).mono ?_); rintro e w9 ⟨rfl, n2, rfl⟩; have HD9 := Lib.hid (blk_drewN (Wk.blk_alloc HD8.out (.cells #[.int .i64 5, .int .i32 0, .bool false, .bool false, .bool false, .string ⟨#[]⟩] 50)) n2))
    | (go_at_call 22; (with_reducible refine (held_calls (w2.heap.size + 1) _ _ HD9.out).mono ?_); rintro e w10 ⟨rfl, rfl⟩))
  go_ret
  exact ⟨rfl, bel_drewN (bel_alloc HB8.out _) _⟩
end Go.Proofs.YtjjilhfebkeoeaaDoor.Ky
/- fed: walked. -/
namespace Go.Proofs.YtjjilhfebkeoeaaDoor.Ky
open Go Go.RowKit Go.Proofs.YtjjilhfebkeoeaaDoor.PKy
open Go.Proofs.YtjjilhfebkeoeaaDoorW.PrintWords (bt rdOf Kd Drawn0 Reps Aside0)
open Go.Proofs.YtjjilhfebkeoeaaDoor.Wk (bcell bel_drew bel_drewN bel_alloc bel_set bel_call size_len mk_data beq_true_i bne_true_i bne_false_i beq_false_i drop_cons var_below blk_alloc blk_below blk_drewN blk_cell blk_frozen blk_far blk_set blk_lt own_slice own_below cells_new)
set_option linter.unusedVariables false
set_option linter.unusedSimpArgs false




def cat (l : List ByteArray) : List UInt8 := (l.map (·.data.toList)).flatten
theorem cat_nil : cat [] = [] := rfl
theorem cat_app (a b : List ByteArray) : cat (a ++ b) = cat a ++ cat b := by simp [cat]
theorem cat_snoc (l : List ByteArray) (k : Nat) (h : k < l.length) : cat (l.take (k + 1)) = cat (l.take k) ++ l[k].data.toList := by
  rw [List.take_succ_eq_append_getElem h, cat_app]; simp [cat]
theorem cat_take_le (l : List ByteArray) (k : Nat) : (cat (l.take k)).length ≤ (cat l).length := by
  have : cat l = cat (l.take k) ++ cat (l.drop k) := by rw [← cat_app, List.take_append_drop]
  rw [this, List.length_append]; omega
theorem keys_app (b : Bool) (l t : List UInt8) : keysOf b (l ++ t) = keysOf false l ++ keysOf b (held false l ++ t) := by
  unfold keysOf; rw [run_feed]; simp [held]
theorem held_app (b : Bool) (l t : List UInt8) : held b (l ++ t) = held b (held false l ++ t) := by
  unfold held; rw [run_feed]; rfl
theorem run_len (n : Nat) : ∀ (b : Bool) (l : List UInt8), l.length ≤ n → (run b l).1.length + (run b l).2.length ≤ l.length := by
  induction n with
  | zero =>
    intro b l h
    have : l = [] := List.eq_nil_of_length_eq_zero (by omega)
    subst this; simp [run, runN]
  | succ n ih =>
    intro b l h
    by_cases h0 : (rd b l).2 = 0
    · rw [run_stop h0]; simp
    · have hle := rd_le b l
      have := ih b (l.drop (rd b l).2) (by simp only [List.length_drop]; omega)
      rw [run_go h0]
      simp only [List.length_cons, List.length_drop] at this ⊢
      omega
theorem keys_len (b : Bool) (l : List UInt8) : (keysOf b l).length + (held b l).length ≤ l.length := by
  have := run_len l.length b l (Nat.le_refl _)
  unfold keysOf held; rw [List.length_map]; exact this
theorem kc_one (L : List Key) : ∀ u ∈ kc L, u.oneCell' = true := by
  intro u hu
  unfold kc at hu
  rw [List.mem_flatMap] at hu
  obtain ⟨k, -, hk⟩ := hu
  simp only [kcells, List.mem_cons, List.not_mem_nil, or_false] at hk
  rcases hk with rfl | rfl | rfl | rfl | rfl | rfl <;> rfl
def FPost (w : World) (K : List Key) (h : List UInt8) (e : Ending) (w' : World) : Prop := ∃ v, e = .returned (.tuple #[v, .string ⟨h.toArray⟩]) ∧ Own w' w.heap.size v K ∧ Below w.heap.size w w'
theorem held_B (l : List UInt8) : (⟨l.toArray⟩ : ByteArray).data.toList = l := by simp
/-- What the walk of 'fed' knows: the row, the decoder's box. -/
structure FW (w wr : World) (v : Value) (l : List UInt8) : Prop where
  own : Own wr (w.heap.size + 1) v (keysOf false l)
  dec : wr.heap[w.heap.size]? = some (.cells #[.string ⟨(held false l).toArray⟩] 58 (0, 0))
  bel : Below w.heap.size w wr
theorem FW.start (w : World) : FW w (w.alloc (.cells #[.string ⟨#[]⟩] 58)) (.slice none 0 0) [] := ⟨World.ownsRow_nil _ _ _ _, heap_alloc_new w _, bel_a _ _⟩
/-- Behind a Feed: the old row and the new one. -/
theorem FW.feed {w wr w5 : World} {v v5 : Value} {l p : List UInt8} {e : Ending} (H : FW w wr v l) (h5 : TPost wr w.heap.size false (held false l ++ p) e w5) (he : e = .returned v5) :
    Own w5 (w.heap.size + 1) v (keysOf false l) ∧ Own w5 (w.heap.size + 1) v5 (keysOf false (held false l ++ p)) ∧ w5.heap[w.heap.size]? = some (.cells #[.string ⟨(held false (l ++ p)).toArray⟩] 58 (0, 0)) ∧ Below w.heap.size w w5 := by
  obtain ⟨v', e', ho, hg, hb⟩ := h5
  rw [he] at e'
  cases e'
  have hs := H.bel.size
  have hlt := blk_lt H.dec
  refine ⟨Own_grown H.own hg (fun k hk => by have := (H.own.lt k hk).1; omega), own_base ho (by omega), by rw [held_app]; exact hb, bel_gb H.bel hg (Nat.le_refl _)⟩
theorem FW.next {w w5 w6 : World} {v v6 : Value} {l p : List UInt8} (ho : Own w5 (w.heap.size + 1) v (keysOf false l)) (hd : w5.heap[w.heap.size]? = some (.cells #[.string ⟨(held false (l ++ p)).toArray⟩] 58 (0, 0))) (hb : Below w.heap.size w w5)
    (ho6 : Own w6 (w.heap.size + 1) v6 (keysOf false l ++ keysOf false (held false l ++ p))) (hg : w5.grownBy w6 v.ownBlock) : FW w w6 v6 (l ++ p) := by
  refine ⟨by rw [keys_app]; exact ho6, ?_, hb.grown hg hb.size (fun k hk => by have := (ho.lt k hk).1; omega)⟩
  rw [hg.block w.heap.size (blk_lt hd) (fun e => by have := (ho.lt _ e.symm).1; omega)]
  exact hd
theorem str_any {W W1 : World} (x : ByteArray) (c : List Value) (h : Kd.string.K W x c) : Kd.string.K W1 x c := h
theorem Cs_below {W W1 : World} {A : Option Addr} {n : Nat} {xs : List ByteArray} (h : Kd.C Kd.string W A n xs) (hb : Below W.heap.size W W1) : Kd.C Kd.string W1 A n xs := C_below str_any h hb
set_option maxHeartbeats 4000000 in
set_option maxRecDepth 1000000 in
theorem fed_calls (A0 : Option Addr) (c0 : Nat) (l0 : List ByteArray) (w : World) (hT : Tb w) (hC : Kd.C Kd.string w A0 l0.length l0) (hc : l0.length ≤ c0) (hsz : (cat l0).length ≤ 1000000000) (hll : l0.length ≤ 1000000000) :
    Calls Tryd.prog 17 #[.slice A0 l0.length c0] w (FPost w (keysOf false (cat l0)) (held false (cat l0))) := by
  obtain ⟨i0, hi, hz0, hz1, hz2⟩ := info_parts info50
  have HT := Lib.hid hT
  have HC := Aside0.mk hC
  have HS := Lib.hid hsz
  clear hT hC hsz
  go_enter Tryd.func17, Tryd.ntmps17
  go_wp2_with (go_at_call 19; (with_reducible refine (new_calls _).mono ?_); rintro e w3 ⟨rfl, rfl⟩)
  go_loopw [5, 6] (fun v5 v6 wr => ∃ x : Nat, v6 = .int .i64 x ∧ x ≤ l0.length ∧ Hid (FW w wr v5 (cat (l0.take x)))) (fun _ v6 _ => l0.length - (intOf v6).toNat)
  case atStart => exact ⟨0, rfl, Nat.zero_le _, FW.start w⟩
  case round =>
    obtain ⟨x, rfl, hx, hW⟩ := hrel
    have hown := hW.out.own
    obtain ⟨A, c, rfl, hcc, -⟩ := own_C hown
    have HO := Lib.hid hown
    clear hown
    by_cases hlt : x < l0.length
    · obtain ⟨p, hp⟩ : ∃ p, p = l0[x] := ⟨_, rfl⟩
      obtain ⟨ad, ea, hcell⟩ := Kd.at_string (Cs_below HC.out hW.out.bel) (x : Int) (by omega) (by omega)
      subst ea
      have hrd : rdOf ByteArray.empty l0 (x : Int) = p := by unfold rdOf; rw [Int.toNat_natCast, List.getD_eq_getElem?_getD, List.getElem?_eq_getElem hlt, hp]; rfl
      rw [hrd, Int.toNat_natCast] at hcell
      have hcs := cat_snoc l0 x hlt
      rw [← hp] at hcs
      have hle := cat_take_le l0 (x + 1)
      rw [hcs, List.length_append, size_len] at hle
      have hkl := keys_len false (cat (l0.take x))
      have hkl2 := keys_len false (held false (cat (l0.take x)) ++ p.data.toList)
      rw [List.length_append, size_len] at hkl2
      have HS2 := HS.out
      have hfs : (⟨(held false (cat (l0.take x))).toArray⟩ : ByteArray).size + p.size ≤ 1000000000 := by rw [← size_len, held_B]; omega
      have hb1 : (keysOf false (cat (l0.take x))).length + (keysOf false (held false (cat (l0.take x)) ++ p.data.toList)).length ≤ 1000000000 := by omega
      have HCS := Lib.hid hcs
      have hxi : (x : Int) < (l0.length : Int) := by omega
      clear hrd hp hcs hle hkl hkl2 HS2
      have HNIL : Hid (∀ w5 : World, Own w5 (w.heap.size + 1) (.slice A (keysOf false (cat (l0.take x))).length c) (keysOf false (cat (l0.take x))) → w5.heap[w.heap.size]? = some (.cells #[.string ⟨(held false (cat (l0.take x) ++ p.data.toList)).toArray⟩] 58 (0, 0)) → Below w.heap.size w w5 → (keysOf false (held false (cat (l0.take x)) ++ p.data.toList)).length = 0 → FW w w5 (.slice A (keysOf false (cat (l0.take x))).length c) (cat (l0.take x) ++ p.data.toList)) :=
        (fun w5 h1 h2 h3 h0 => FW.next h1 h2 h3 (by rw [List.eq_nil_of_length_eq_zero h0, List.append_nil]; exact h1) (World.grownBy.refl _ _))
      go_wp2_with (first
        | (go_at_call 20; (with_reducible refine (feed_calls w.heap.size ⟨(held false (cat (l0.take x))).toArray⟩ p hfs _ (HT.out.below hW.out.bel) hW.out.dec).mono ?_); rintro e w5 h5; obtain ⟨v5, hv5⟩ : ∃ v5, e = .returned v5 := ⟨_, h5.choose_spec.1⟩; rw [data_app, held_B] at h5; subst hv5; obtain ⟨ho1, ho2, hd5, hb5⟩ := hW.out.feed h5 rfl; have HO1 := Lib.hid ho1; have HD5 := Lib.hid hd5; have HB5 := Lib.hid hb5; have hcl := Lib.hid (fun g (h : v5.ownBlock = some g) => ho2.cells h); (rcases ho2.2 with ⟨rfl, h0⟩ | ⟨g5, cap5, cur5, rfl, -, -, -, -, -, -⟩); clear ho1 ho2 hd5 hb5 h5)
        | (at_builtin; refine wpList_append_own_none rfl _ _ 30 rfl (w.heap.size + 1) 50 i0 6 Tryd.underlying30 hi _ _ _ rfl HO1.out rfl ?_)
        | (at_builtin; go_loud (refine wpList_append_own _ rfl _ _ 30 rfl (w.heap.size + 1) 50 i0 (.agg #[.int .i64 0, .int .i32 0, .bool false, .bool false, .bool false, .string ⟨#[]⟩]) 6 32 Tryd.underlying30 hi hz0 hz1 hz2 rfl (by decide) _ _ _ rfl HO1.out ⟨g5, 0, none⟩ _ _ (kc (keysOf false (held false (cat (l0.take x)) ++ p.data.toList))) rfl ?c1 ?c2 ?c3 ?c4 ?c5 ?c6 ?_)))
      case c1 => exact kc_len _
      case c2 => exact hcl.out g5 rfl
      case c3 => exact kc_one _
      case c4 => unfold maxLen; omega
      case c5 => omega
      case c6 => have := HB5.out.size; have := blk_lt HD5.out; omega
      case roundEnd => exact ⟨⟨x + 1, by go_num, by omega, by show FW _ _ _ _; rw [HCS.out]; exact HNIL.out _ HO1.out HD5.out HB5.out h0⟩, by simp [intOf]; omega⟩
      case inr =>
        intro v' w6 hown' hgrow _
        have HN : Hid (FW w w6 v' (cat (l0.take x) ++ p.data.toList)) := FW.next HO1.out HD5.out HB5.out (by unfold Own; rw [kc_app, List.length_append]; exact hown') hgrow
        clear hown' hgrow
        go_wp2
        go_roundw
        case rel => exact ⟨x + 1, by go_num, by omega, by show FW _ _ _ _; rw [HCS.out]; exact HN.out⟩
        case measure => simp [intOf]; omega
    · have he : cat (l0.take x) = cat l0 := by rw [List.take_of_length_le (by omega)]
      rw [he] at hW HO
      have hge : (l0.length : Int) ≤ x := by omega
      go_wp2_with (go_at_call 22; (with_reducible refine (held_calls w.heap.size _ _ hW.out.dec).mono ?_); rintro e w6 ⟨rfl, rfl⟩)
      go_ret2
      exact ⟨_, rfl, own_base (by rw [← he]; rw [he]; exact HO.out) (Nat.le_succ _), hW.out.bel⟩
end Go.Proofs.YtjjilhfebkeoeaaDoor.Ky
