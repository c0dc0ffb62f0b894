/- A key's name: walked (KeysEnds). -/
import Derived.Test.YtjjilhfebkeoeaaDoorKyV
import Derived.Lib.ItoaLen
import Derived.Deep.DeepCutAuto
namespace Go.Proofs.YtjjilhfebkeoeaaDoor.Ky
open Go Go.RowKit Go.Proofs.YtjjilhfebkeoeaaDoor.PKy
open Go.Proofs.YtjjilhfebkeoeaaDoorW.PrintWords (bt rdOf Kd Drawn0 Reps Aside0)
open Go.Proofs.YtjjilhfebkeoeaaDoor.Wk (bcell bel_drew bel_drewN bel_alloc bel_set bel_call size_len mk_data beq_true_i bne_true_i bne_false_i beq_false_i drop_cons var_below blk_alloc blk_below blk_drewN blk_cell blk_frozen blk_far blk_set blk_lt own_slice own_below cells_new)
set_option linter.unusedVariables false
set_option linter.unusedSimpArgs false
def nmB : List ByteArray := [⟨#[]⟩, ⟨#[]⟩, ⟨#[]⟩, ⟨#[69, 115, 99]⟩, ⟨#[66, 97, 100]⟩, ⟨#[85, 112]⟩, ⟨#[68, 111, 119, 110]⟩, ⟨#[82, 105, 103, 104, 116]⟩, ⟨#[76, 101, 102, 116]⟩, ⟨#[72, 111, 109, 101]⟩, ⟨#[69, 110, 100]⟩, ⟨#[73, 110, 115, 101, 114, 116]⟩, ⟨#[68, 101, 108, 101, 116, 101]⟩, ⟨#[80, 97, 103, 101, 85, 112]⟩, ⟨#[80, 97, 103, 101, 68, 111, 119, 110]⟩, ⟨#[84, 97, 98]⟩, ⟨#[70]⟩, ⟨#[80, 97, 115, 116, 101]⟩, ⟨#[85, 110, 107, 110, 111, 119, 110]⟩]
def nmOf (kind : Int) : List UInt8 := (nmB.getD kind.toNat ⟨#[]⟩).data.toList
/-- What a name has ahead of its modifiers' letters. -/
def nameB (kind char : Int) : List UInt8 := if kind = 1 ∨ kind = 2 then encL char else if kind = 16 then nmOf 16 ++ Lib.itoa char else nmOf kind
/-- A key's name. -/
def nameOf (k : Key) : List UInt8 :=
  if k.kind < 1 ∨ 18 < k.kind then [] else (if k.ctrl = true then [67, 45] else []) ++ ((if k.mt = true then [77, 45] else []) ++ ((if k.shift = true then [83, 45] else []) ++ nameB k.kind k.char))
theorem names_at {W : World} {g : Nat} (h : W.heap[g]? = some (.cells (nmB.map Value.string).toArray 9 (0, 0))) (kind : Int) (h0 : 1 ≤ kind) (h1 : kind ≤ 18) :
    W.cell? ⟨g, kind.toNat, none⟩ = some (.string ⟨(nmOf kind).toArray⟩) := by
  rw [blk_cell h kind.toNat]
  have hl : kind.toNat < nmB.length := by show kind.toNat < 19; omega
  simp only [List.getElem?_toArray, List.getElem?_map]
  rw [List.getElem?_eq_getElem hl]
  simp only [Option.map_some, nmOf, List.getD_eq_getElem?_getD, List.getElem?_eq_getElem hl, Option.getD_some]
theorem nm_len (kind : Int) : (nmOf kind).length ≤ 10 := by
  have h : ∀ b ∈ nmB, b.data.toList.length ≤ 10 := by decide +kernel
  unfold nmOf
  rw [List.getD_eq_getElem?_getD]
  cases hb : nmB[kind.toNat]? with
  | none => simp
  | some b => exact h b (List.mem_of_getElem? hb)
theorem below_grow (w : World) (k : Nat) (os : Array Obj) : Below w.heap.size w (Sort.grow (w.drewN k) os) :=
  ⟨rfl, rfl, rfl, by simp [Sort.grow, World.drewN], fun i hi => by
    show (w.heap ++ os)[i]? = w.heap[i]?
    rw [Array.getElem?_append_left hi]⟩
/-- What the rest of the walk knows: the key's cells, the names' row. -/
structure NW (w W : World) (kind char : Int) (ct mt sh : Bool) (t : ByteArray) : Prop where
  bel : Below w.heap.size w W
  blk : W.heap[w.heap.size]? = some (.cells #[.int .i64 kind, .int .i32 char, .bool ct, .bool mt, .bool sh, .string t] 50 (0, 0))
  nms : W.heap[w.heap.size + 1]? = some (.cells (nmB.map Value.string).toArray 9 (0, 0))
theorem nm_ret {kind char : Int} {ct mt sh : Bool} {text : List UInt8} (h1 : 1 ≤ kind) (h2 : kind ≤ 18) {N : ByteArray} (hN : N.data.toList = nameB kind char) :
    nameOf ⟨kind, char, ct, mt, sh, text⟩ = (if ct = true then [67, 45] else []) ++ ((if mt = true then [77, 45] else []) ++ ((if sh = true then [83, 45] else []) ++ N.data.toList)) := by
  unfold nameOf
  rw [if_neg (fun h => by simp only at h; omega), hN]
theorem encL_le (c : Int) : (encL c).length ≤ 4 := by
  unfold encL
  split
  · unfold Lib.encodeRune; rw [List.length_map]; exact (Lib.encodeRuneZ_length c).2
  · simp
set_option maxHeartbeats 4000000 in
set_option maxRecDepth 1000000 in
theorem name_in (kind char : Int) (ct mt sh : Bool) (text : List UInt8) (h1 : 1 ≤ kind) (h2 : kind ≤ 18) (hc0 : -2147483648 ≤ char) (hc1 : char ≤ 2147483647) (w : World) (hT : Tb w) :
    Calls Tryd.prog 27 #[keyV ⟨kind, char, ct, mt, sh, text⟩] w fun e w' => e = .returned (.string ⟨(nameOf ⟨kind, char, ct, mt, sh, text⟩).toArray⟩) ∧ Below w.heap.size w w' := by
  have HT := Lib.hid hT
  have q1 : decide (kind < 1) = false := by rw [decide_eq_false_iff_not]; omega
  have q2 : decide (18 < kind) = false := by rw [decide_eq_false_iff_not]; omega
  clear hT
  unfold keyV
  simp only
  go_enter Tryd.func27, Tryd.ntmps27
  go_upto_region 4 with fail
  obtain ⟨W, hW⟩ : ∃ W, (w.alloc (.cells #[.int .i64 kind, .int .i32 char, .bool ct, .bool mt, .bool sh, .string ⟨text.toArray⟩] 50)).alloc (.cells (nmB.map Value.string).toArray 9) = W := ⟨_, rfl⟩
  have HW : Hid (NW w W kind char ct mt sh ⟨text.toArray⟩) := by
    rw [← hW]
    have hn := heap_alloc_new (w.alloc (.cells #[.int .i64 kind, .int .i32 char, .bool ct, .bool mt, .bool sh, .string ⟨text.toArray⟩] 50)) (.cells (nmB.map Value.string).toArray 9)
    rw [Wk.size_alloc] at hn
    exact ⟨bel_alloc (bel_alloc (Below.refl _ _) _) _, Wk.blk_alloc (heap_alloc_new w _) _, hn⟩
  simp only [nmB, List.map_cons, List.map_nil] at hW
  rw [hW]
  clear hW
  have c0 : W.cell? ⟨w.heap.size, 0, none⟩ = some (.int .i64 kind) := blk_cell HW.out.blk 0
  have c1 : W.cell? ⟨w.heap.size, 1, none⟩ = some (.int .i32 char) := blk_cell HW.out.blk 1
  have c3 : W.cell? ⟨w.heap.size, 3, none⟩ = some (.bool mt) := blk_cell HW.out.blk 3
  have c4 : W.cell? ⟨w.heap.size, 4, none⟩ = some (.bool sh) := blk_cell HW.out.blk 4
  have c2 : W.cell? ⟨w.heap.size, 2, none⟩ = some (.bool ct) := blk_cell HW.out.blk 2
  have hn := names_at HW.out.nms kind h1 h2
  obtain ⟨N, hN⟩ : ∃ N : ByteArray, (⟨(nmOf kind).toArray⟩ : ByteArray) = N := ⟨_, rfl⟩
  have hNd : N.data.toList = nmOf kind := by rw [← hN]
  have hNs : N.size ≤ 10 := by rw [← size_len, hNd]; exact nm_len kind
  rw [hN] at hn
  have HND := Lib.hid hNd
  have p0 : (0 : Int) ≤ kind := by omega
  have p1 : kind < 19 := by omega
  clear hN hNd q1 q2
  by_cases h12 : kind = 1 ∨ kind = 2
  · obtain ⟨E, hE⟩ : ∃ E : ByteArray, E = ⟨(encL char).toArray⟩ := ⟨_, rfl⟩
    have HE := Lib.hid hE
    have hEd : E.data.toList = encL char := by rw [hE]
    have hEs : E.size ≤ 4 := by rw [← size_len, hEd]; exact encL_le char
    have HNB : Hid (E.data.toList = nameB kind char) := by show _ = _; unfold nameB; rw [if_pos h12, hEd]
    clear hE hEd
    have hk : ((kind == 1) = true ∧ True) ∨ ((kind == 1) = false ∧ (kind == 2) = true) := by
      rcases h12 with h | h
      · exact .inl ⟨beq_true_i h, trivial⟩
      · exact .inr ⟨beq_false_i (by omega), beq_true_i h⟩
    clear h12
    rcases hk with ⟨k1, k2⟩ | ⟨k1, k2⟩ <;> cases sh <;> cases mt <;> cases ct
    all_goals
      go_wp2_with (go_at_call 37; (with_reducible refine (encode_as HE.out hc0 hc1 _ _ (Nat.le_refl _) _ (heap_alloc_new W _)).mono ?_); rintro e wz ⟨rfl, hb⟩; have HB1 := Lib.hid (bel_call (bel_alloc HW.out.bel _) hb); have hz := blk_below (Wk.blk_alloc HW.out.blk _) hb; have d2 := blk_cell hz 2; have d3 := blk_cell hz 3; have d4 := blk_cell hz 4; simp only [List.getElem?_toArray, List.getElem?_cons_zero, List.getElem?_cons_succ] at d2 d3 d4; clear hb hz)
      go_ret
      exact ⟨ret_s (by rw [nm_ret h1 h2 HNB.out]; simp), HB1.out⟩
  · by_cases h16 : kind = 16
    · have k1 : (kind == 1) = false := beq_false_i (by omega)
      have k2 : (kind == 2) = false := beq_false_i (by omega)
      have k3 : (kind == 16) = true := beq_true_i h16
      obtain ⟨E, hE⟩ : ∃ E : ByteArray, E = ⟨(Lib.itoa char).toArray⟩ := ⟨_, rfl⟩
      have hEd : E.data.toList = Lib.itoa char := by rw [hE]
      have hEs : E.size ≤ 21 := by rw [← size_len, hEd]; exact Lib.itoa_length_le char (by omega) (by omega)
      have HNB : Hid ((N ++ E).data.toList = nameB kind char) := by show _ = _; unfold nameB; rw [if_neg h12, if_pos h16, data_app, HND.out, hEd, h16]
      have it0 : ∀ V, Tb V → Calls Tryd.prog 41 #[.int .i64 char] V (fun e w' => e = .returned (.string E) ∧ Below V.heap.size V w') := fun V hV => by
        rw [hE]
        exact (Tryd.strconv_Itoa char (by omega) (by omega) V hV.p).mono (by rintro e w' ⟨rfl, k, os, rfl⟩; exact ⟨rfl, below_grow V k os⟩)
      have IT := Lib.hid it0
      clear hE hEd it0 h12 h16
      cases sh <;> cases mt <;> cases ct
      all_goals
        go_wp2_with (go_at_call 41; (with_reducible refine (IT.out _ (HT.out.below HW.out.bel)).mono ?_); rintro e wz ⟨rfl, hb⟩; have HB1 := Lib.hid (bel_call HW.out.bel hb); have hz := blk_below HW.out.blk hb; have d2 := blk_cell hz 2; have d3 := blk_cell hz 3; have d4 := blk_cell hz 4; simp only [List.getElem?_toArray, List.getElem?_cons_zero, List.getElem?_cons_succ] at d2 d3 d4; clear hb hz)
        go_ret
        exact ⟨ret_s (by rw [nm_ret h1 h2 HNB.out]; simp), HB1.out⟩
    · have k1 : (kind == 1) = false := beq_false_i (by omega)
      have k2 : (kind == 2) = false := beq_false_i (by omega)
      have k3 : (kind == 16) = false := beq_false_i h16
      have HNB : Hid (N.data.toList = nameB kind char) := by show _ = _; unfold nameB; rw [if_neg h12, if_neg h16, HND.out]
      clear h12 h16
      cases sh <;> cases mt <;> cases ct
      all_goals
        go_wp2
        go_ret
        exact ⟨ret_s (by rw [nm_ret h1 h2 HNB.out]; simp), HW.out.bel⟩
set_option maxHeartbeats 4000000 in
set_option maxRecDepth 1000000 in
theorem name_out (kind char : Int) (ct mt sh : Bool) (text : List UInt8) (h : kind < 1 ∨ 18 < kind) (w : World) :
    Calls Tryd.prog 27 #[keyV ⟨kind, char, ct, mt, sh, text⟩] w fun e w' => e = .returned (.string ⟨(nameOf ⟨kind, char, ct, mt, sh, text⟩).toArray⟩) ∧ Below w.heap.size w w' := by
  have HR : Hid ((⟨(nameOf ⟨kind, char, ct, mt, sh, text⟩).toArray⟩ : ByteArray) = ⟨#[]⟩) := by show _ = _; unfold nameOf; rw [if_pos (by simpa using h)]
  rw [HR.out]
  by_cases h1 : kind < 1
  · have q1 : decide (kind < 1) = true := by rw [decide_eq_true_eq]; omega
    unfold keyV
    simp only
    go_enter Tryd.func27, Tryd.ntmps27
    go_wp2
    go_ret
    exact ⟨rfl, bel_alloc (bel_alloc (Below.refl _ _) _) _⟩
  · have q1 : decide (kind < 1) = false := by rw [decide_eq_false_iff_not]; omega
    have q2 : decide (18 < kind) = true := by rw [decide_eq_true_eq]; omega
    unfold keyV
    simp only
    go_enter Tryd.func27, Tryd.ntmps27
    go_wp2
    go_ret
    exact ⟨rfl, bel_alloc (bel_alloc (Below.refl _ _) _) _⟩
/-- keys.Name, of every key. -/
theorem name_calls (k : Key) (hc0 : -2147483648 ≤ k.char) (hc1 : k.char ≤ 2147483647) (w : World) (hT : Tb w) :
    Calls Tryd.prog 27 #[keyV k] w fun e w' => e = .returned (.string ⟨(nameOf k).toArray⟩) ∧ Below w.heap.size w w' := by
  obtain ⟨kind, char, ct, mt, sh, text⟩ := k
  by_cases h : kind < 1 ∨ 18 < kind
  · exact name_out kind char ct mt sh text h w
  · exact name_in kind char ct mt sh text (by omega) (by omega) hc0 hc1 w hT
end Go.Proofs.YtjjilhfebkeoeaaDoor.Ky
