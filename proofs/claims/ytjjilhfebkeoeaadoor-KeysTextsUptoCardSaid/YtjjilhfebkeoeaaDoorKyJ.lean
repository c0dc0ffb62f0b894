/- meaning: walked. -/
import Derived.Test.YtjjilhfebkeoeaaDoorKyH
import Derived.Test.YtjjilhfebkeoeaaDoorKyI
import Derived.RegionTactic
import Derived.Deep.DeepCutAuto
import Derived.StillTailTactics
import Derived.ChangeAlike
namespace Go.Proofs.YtjjilhfebkeoeaaDoor.Ky
open Go Go.RowKit
open Go.Proofs.YtjjilhfebkeoeaaDoor.Wk (bcell bel_drew bel_drewN bel_alloc bel_set bel_call size_len mk_data beq_true_i bne_true_i bne_false_i beq_false_i drop_cons var_below)
set_option linter.unusedVariables false
set_option linter.unusedSimpArgs false




theorem bits_of (m : Nat) (h1 : 1 ≤ m) (h8 : m ≤ 8) : (bits .and .i64 ((m : Int) - 1) 1 != 0) = decide ((m - 1) % 2 = 1) ∧ (bits .and .i64 ((m : Int) - 1) 2 != 0) = decide ((m - 1) / 2 % 2 = 1) ∧ (bits .and .i64 ((m : Int) - 1) 4 != 0) = decide ((m - 1) / 4 % 2 = 1) := by
  have hin : m = 1 ∨ m = 2 ∨ m = 3 ∨ m = 4 ∨ m = 5 ∨ m = 6 ∨ m = 7 ∨ m = 8 := by omega
  rcases hin with h | h | h | h | h | h | h | h <;> subst h <;> exact ⟨by decide, by decide, by decide⟩
theorem numbered_15 (n : Int) : (numbered n).kind ≠ 15 := by
  unfold numbered named key0
  repeat' split
  all_goals simp
theorem mods_no {k : Key} {m : Nat} {b1 b2 b4 : Bool} (h : k.kind ≠ 15) (h1 : b1 = decide ((m - 1) % 2 = 1)) (h2 : b2 = decide ((m - 1) / 2 % 2 = 1)) (h4 : b4 = decide ((m - 1) / 4 % 2 = 1)) : mods k m = { k with shift := b1, mt := b2, ctrl := b4 } := by
  unfold mods; rw [h1, h2, h4, decide_eq_false h, Bool.false_or]
theorem mods_yes {k : Key} {m : Nat} {b2 b4 : Bool} (h : k.kind = 15) (h2 : b2 = decide ((m - 1) / 2 % 2 = 1)) (h4 : b4 = decide ((m - 1) / 4 % 2 = 1)) : mods k m = { k with shift := true, mt := b2, ctrl := b4 } := by
  unfold mods; rw [h2, h4, decide_eq_true h, Bool.true_or]
theorem mN_none {last : Bool} {l : List UInt8} {i e : Nat} {two : Bool} : meaningN last l i e none two = unknown (l.take (i + 1)) := rfl
theorem mN_paste {last : Bool} {l : List UInt8} {i n m : Nat} (h : n = 200) : meaningN last l i 126 (some (n, m)) false = paste last l (i + 1) := by
  unfold meaningN; simp only; rw [if_pos ⟨trivial, h, trivial⟩]
theorem mN_num0 {last : Bool} {l : List UInt8} {i n m : Nat} {two : Bool} (h : ¬ (n = 200 ∧ two = false)) (hk : (numbered n).kind = 0) : meaningN last l i 126 (some (n, m)) two = unknown (l.take (i + 1)) := by
  unfold meaningN; simp only; rw [if_neg (fun g => h g.2)]
  have : endKey 126 n = numbered n := by unfold endKey; rw [if_pos rfl]
  rw [this, if_pos hk]
theorem mN_num {last : Bool} {l : List UInt8} {i n m : Nat} {two : Bool} (hk : (numbered n).kind ≠ 0) : meaningN last l i 126 (some (n, m)) two = (mods (numbered n) m, i + 1) := by
  unfold meaningN; simp only
  have : endKey 126 n = numbered n := by unfold endKey; rw [if_pos rfl]
  rw [if_neg (fun g => hk (by rw [g.2.1]; rfl)), this, if_neg hk]
theorem mN_let0 {last : Bool} {l : List UInt8} {i e m : Nat} {two : Bool} (he : e ≠ 126) (hk : (lettered e).kind = 0) : meaningN last l i e (some (1, m)) two = unknown (l.take (i + 1)) := by
  unfold meaningN; simp only; rw [if_neg (fun g => he g.1)]
  have : endKey e 1 = lettered e := by unfold endKey; rw [if_neg he, if_pos rfl]
  rw [this, if_pos hk]
theorem mN_let {last : Bool} {l : List UInt8} {i e m : Nat} {two : Bool} (he : e ≠ 126) (hk : (lettered e).kind ≠ 0) : meaningN last l i e (some (1, m)) two = (mods (lettered e) m, i + 1) := by
  unfold meaningN; simp only; rw [if_neg (fun g => he g.1)]
  have : endKey e 1 = lettered e := by unfold endKey; rw [if_neg he, if_pos rfl]
  rw [this, if_neg hk]
theorem mN_no {last : Bool} {l : List UInt8} {i e n m : Nat} {two : Bool} (he : e ≠ 126) (hn : n ≠ 1) : meaningN last l i e (some (n, m)) two = unknown (l.take (i + 1)) := by
  unfold meaningN; simp only; rw [if_neg (fun g => he g.1)]
  have : endKey e n = key0 := by unfold endKey; rw [if_neg he, if_neg hn]
  rw [this]; rfl
set_option maxHeartbeats 1000000 in
theorem meaning_calls (s : ByteArray) (i : Nat) (last : Bool) (h2 : 2 ≤ i) (hi : i < s.size) (hs : s.size ≤ 1000000000) (w : World) (hT : Tb w) :
    Calls Tryd.prog 75 #[.string s, .int .i64 i, .bool last] w fun e w' => e = .returned (knV (meaning last s.data.toList i)) ∧ Below w.heap.size w w' := by
  obtain ⟨A, hA⟩ : ∃ A : ByteArray, A.data.toList = (cut1 59 (s.extract 2 i).data.toList).1 := ⟨⟨(cut1 59 (s.extract 2 i).data.toList).1.toArray⟩, rfl⟩
  obtain ⟨B, hB⟩ : ∃ B : ByteArray, B.data.toList = (cut1 59 (s.extract 2 i).data.toList).2.1 := ⟨⟨(cut1 59 (s.extract 2 i).data.toList).2.1.toArray⟩, rfl⟩
  obtain ⟨b, hb⟩ : ∃ b : Bool, b = (cut1 59 (s.extract 2 i).data.toList).2.2 := ⟨_, rfl⟩
  have hcut : cut1 59 (s.extract 2 i).data.toList = (A.data.toList, B.data.toList, b) := by rw [hA, hB, hb]
  have cut_len : ∀ l : List UInt8, (cut1 59 l).1.length ≤ l.length ∧ (cut1 59 l).2.1.length ≤ l.length := by
    intro l
    induction l with
    | nil => simp [cut1]
    | cons x r ih =>
      simp only [cut1]; split
      · simp
      · simp only [List.length_cons]; omega
  have hxl : (s.extract 2 i).data.toList.length ≤ s.size := by rw [in_ext s i h2]; simp; omega
  have hAs : A.size ≤ 1000000000 := by have := cut_len (s.extract 2 i).data.toList; rw [← size_len, hA]; omega
  have hBs : B.size ≤ 1000000000 := by have := cut_len (s.extract 2 i).data.toList; rw [← size_len, hB]; omega
  have hxs : (s.extract 2 i).size ≤ 1000000000 := by rw [← size_len]; omega
  have hys : (s.extract 0 (i + 1)).size ≤ 1000000000 := by simp; omega
  have he9 : s[i].toNat < 256 := s[i].toNat_lt
  have hM : meaning last s.data.toList i = meaningN last s.data.toList i s[i].toNat (numsOf A.data.toList B.data.toList b) b := by
    have hg : s.data.toList.getD i 0 = s[i] := by
      rw [List.getD_eq_getElem?_getD, List.getElem?_eq_getElem (by rw [size_len]; exact hi)]; rfl
    unfold meaning
    rw [← in_ext s i h2, hcut, hg]
  have hii : (i : Int) < s.size := by omega
  have hi2 : (2 : Int) ≤ i := by omega
  have hsi : (s.size : Int) ≤ 1000000000 := by omega
  have he8 : (s[i].toNat : Int) < 256 := by omega
  have HT := Lib.hid hT
  have key : ∀ e : Nat, e = s[i].toNat → (e = 126 ∨ e ≠ 126) := fun e _ => by omega
  have h126 : s[i].toNat = 126 → ((s[i].toNat : Int) == 126) = true := fun h => beq_true_i (by omega)
  have hn126 : s[i].toNat ≠ 126 → ((s[i].toNat : Int) == 126) = false := fun h => beq_false_i (by omega)
  cases b
  · cases hAn : A.data.toList with
    | nil =>
      have hN : numsOf A.data.toList B.data.toList false = some (1, 1) := by unfold numsOf; rw [if_neg (by simp), if_pos hAn]
      rw [hN] at hM
      have qa3 : A.toList = [] := by rw [Lib.toList_data]; exact hAn
      have qa : A.toList.isEmpty = true := by rw [qa3]; rfl
      by_cases he : s[i].toNat = 126
      · rw [he, mN_num (by decide), mods_no (numbered_15 _) rfl rfl rfl] at hM
        exact m_5_t3 s i last h2 hi hs w HT A B hAs hBs hii hi2 hsi hxs hys he8 he9 hcut qa qa3 (h126 he) (by decide) (by decide) 0 0 0 (by decide) (by decide) (by decide) false false false rfl rfl rfl hM
      · by_cases hk : (lettered s[i].toNat).kind = 0
        · rw [mN_let0 he hk] at hM
          exact m_5_t4 s i last h2 hi hs w HT A B hAs hBs hii hi2 hsi hxs hys he8 he9 hcut qa qa3 (hn126 he) (beq_true_i hk) hM
        · rw [mN_let he hk] at hM
          by_cases ht : (lettered s[i].toNat).kind = 15
          · rw [mods_yes ht rfl rfl] at hM
            exact m_5_t5z s i last h2 hi hs w HT A B hAs hBs hii hi2 hsi hxs hys he8 he9 hcut qa qa3 (hn126 he) (beq_false_i hk) (beq_true_i ht) 0 0 0 (by decide) (by decide) (by decide) false false false rfl rfl rfl hM
          · rw [mods_no ht rfl rfl rfl] at hM
            exact m_5_t5 s i last h2 hi hs w HT A B hAs hBs hii hi2 hsi hxs hys he8 he9 hcut qa qa3 (hn126 he) (beq_false_i hk) (beq_false_i ht) 0 0 0 (by decide) (by decide) (by decide) false false false rfl rfl rfl hM
    | cons x r =>
      have qa3 : ¬ A.toList = [] := by rw [Lib.toList_data, hAn]; simp
      have qa : A.toList.isEmpty = false := by rw [Lib.toList_data, hAn]; rfl
      have qa2 : (!A.toList.isEmpty) = true := by rw [qa]; rfl
      have hN : numsOf A.data.toList B.data.toList false = (num A.data.toList).map fun n => (n, 1) := by unfold numsOf; rw [if_neg (by simp), if_neg (by rw [hAn]; simp)]
      rw [hN] at hM
      clear hAn
      cases hn : num A.data.toList with
      | none =>
        rw [hn] at hM
        exact m_e6 s i last h2 hi hs w HT A B hAs hBs hii hi2 hsi hxs hys he8 he9 hcut qa qa2 qa3 hn hM
      | some n =>
        rw [hn, Option.map_some] at hM
        by_cases he : s[i].toNat = 126
        · rw [he] at hM
          by_cases h200 : n = 200
          · rw [mN_paste h200] at hM
            exact m_7_t1 s i last h2 hi hs w HT A B hAs hBs hii hi2 hsi hxs hys he8 he9 hcut qa qa2 qa3 n hn (h126 he) (beq_true_i (by omega)) hM
          · have qn : ((n : Int) == 200) = false := beq_false_i (by omega)
            by_cases hk : (numbered n).kind = 0
            · rw [mN_num0 (fun g => h200 g.1) hk] at hM
              exact m_7_t2 s i last h2 hi hs w HT A B hAs hBs hii hi2 hsi hxs hys he8 he9 hcut qa qa2 qa3 n hn (h126 he) qn (beq_true_i hk) hM
            · rw [mN_num hk, mods_no (numbered_15 _) rfl rfl rfl] at hM
              exact m_7_t3 s i last h2 hi hs w HT A B hAs hBs hii hi2 hsi hxs hys he8 he9 hcut qa qa2 qa3 n hn (h126 he) qn (beq_false_i hk) (beq_false_i (numbered_15 _)) 0 0 0 (by decide) (by decide) (by decide) false false false rfl rfl rfl hM
        · by_cases h1 : n = 1
          · subst h1
            by_cases hk : (lettered s[i].toNat).kind = 0
            · rw [mN_let0 he hk] at hM
              exact m_7_t4 s i last h2 hi hs w HT A B hAs hBs hii hi2 hsi hxs hys he8 he9 hcut qa qa2 qa3 1 hn (hn126 he) rfl (beq_true_i hk) hM
            · rw [mN_let he hk] at hM
              by_cases ht : (lettered s[i].toNat).kind = 15
              · rw [mods_yes ht rfl rfl] at hM
                exact m_7_t5z s i last h2 hi hs w HT A B hAs hBs hii hi2 hsi hxs hys he8 he9 hcut qa qa2 qa3 1 hn (hn126 he) rfl (beq_false_i hk) (beq_true_i ht) 0 0 0 (by decide) (by decide) (by decide) false false false rfl rfl rfl hM
              · rw [mods_no ht rfl rfl rfl] at hM
                exact m_7_t5 s i last h2 hi hs w HT A B hAs hBs hii hi2 hsi hxs hys he8 he9 hcut qa qa2 qa3 1 hn (hn126 he) rfl (beq_false_i hk) (beq_false_i ht) 0 0 0 (by decide) (by decide) (by decide) false false false rfl rfl rfl hM
          · rw [mN_no he h1] at hM
            exact m_7_t6 s i last h2 hi hs w HT A B hAs hBs hii hi2 hsi hxs hys he8 he9 hcut qa qa2 qa3 n hn (hn126 he) (beq_false_i (by omega)) hM
  · cases hm : num B.data.toList with
    | none =>
      have hN : numsOf A.data.toList B.data.toList true = none := by unfold numsOf; rw [if_pos rfl, hm]
      rw [hN] at hM
      exact m_e1 s i last h2 hi hs w HT A B hAs hBs hii hi2 hsi hxs hys he8 he9 hcut hm hM
    | some m =>
      by_cases hm1 : m < 1
      · have hN : numsOf A.data.toList B.data.toList true = none := by unfold numsOf; rw [if_pos rfl, hm]; simp only; rw [if_neg (by omega)]
        rw [hN] at hM
        exact m_e2 s i last h2 hi hs w HT A B hAs hBs hii hi2 hsi hxs hys he8 he9 hcut m hm (by rw [decide_eq_true_eq]; omega) hM
      · have qm1 : decide ((m : Int) < 1) = false := by rw [decide_eq_false_iff_not]; omega
        by_cases hm8 : 8 < m
        · have hN : numsOf A.data.toList B.data.toList true = none := by unfold numsOf; rw [if_pos rfl, hm]; simp only; rw [if_neg (by omega)]
          rw [hN] at hM
          exact m_e3 s i last h2 hi hs w HT A B hAs hBs hii hi2 hsi hxs hys he8 he9 hcut m hm qm1 (by rw [decide_eq_true_eq]; omega) hM
        · have qm8 : decide ((8 : Int) < m) = false := by rw [decide_eq_false_iff_not]; omega
          have hN : numsOf A.data.toList B.data.toList true = (num A.data.toList).map fun n => (n, m) := by unfold numsOf; rw [if_pos rfl, hm]; simp only; rw [if_pos (by omega)]
          rw [hN] at hM
          obtain ⟨B1, B2, B4⟩ := bits_of m (by omega) (by omega)
          cases hn : num A.data.toList with
          | none =>
            rw [hn] at hM
            exact m_e4 s i last h2 hi hs w HT A B hAs hBs hii hi2 hsi hxs hys he8 he9 hcut m hm qm1 qm8 hn hM
          | some n =>
            rw [hn, Option.map_some] at hM
            by_cases he : s[i].toNat = 126
            · rw [he] at hM
              by_cases h200 : n = 200
              · have hk : (numbered n).kind = 0 := by rw [h200]; rfl
                rw [mN_num0 (fun g => by cases g.2) hk] at hM
                exact m_4_t2b s i last h2 hi hs w HT A B hAs hBs hii hi2 hsi hxs hys he8 he9 hcut n m hm (by omega) (by omega) qm1 qm8 hn (h126 he) (beq_true_i (by omega)) (beq_true_i hk) hM
              · have qn : ((n : Int) == 200) = false := beq_false_i (by omega)
                by_cases hk : (numbered n).kind = 0
                · rw [mN_num0 (fun g => h200 g.1) hk] at hM
                  exact m_4_t2 s i last h2 hi hs w HT A B hAs hBs hii hi2 hsi hxs hys he8 he9 hcut n m hm (by omega) (by omega) qm1 qm8 hn (h126 he) qn (beq_true_i hk) hM
                · rw [mN_num hk, mods_no (numbered_15 _) B1 B2 B4] at hM
                  exact m_4_t3 s i last h2 hi hs w HT A B hAs hBs hii hi2 hsi hxs hys he8 he9 hcut n m hm (by omega) (by omega) qm1 qm8 hn (h126 he) qn (beq_false_i hk) (beq_false_i (numbered_15 _)) _ _ _ rfl rfl rfl _ _ _ rfl rfl rfl hM
            · by_cases h1 : n = 1
              · subst h1
                by_cases hk : (lettered s[i].toNat).kind = 0
                · rw [mN_let0 he hk] at hM
                  exact m_4_t4 s i last h2 hi hs w HT A B hAs hBs hii hi2 hsi hxs hys he8 he9 hcut 1 m hm (by omega) (by omega) qm1 qm8 hn (hn126 he) rfl (beq_true_i hk) hM
                · rw [mN_let he hk] at hM
                  by_cases ht : (lettered s[i].toNat).kind = 15
                  · rw [mods_yes ht B2 B4] at hM
                    exact m_4_t5z s i last h2 hi hs w HT A B hAs hBs hii hi2 hsi hxs hys he8 he9 hcut 1 m hm (by omega) (by omega) qm1 qm8 hn (hn126 he) rfl (beq_false_i hk) (beq_true_i ht) _ _ _ rfl rfl rfl _ _ _ rfl rfl rfl hM
                  · rw [mods_no ht B1 B2 B4] at hM
                    exact m_4_t5 s i last h2 hi hs w HT A B hAs hBs hii hi2 hsi hxs hys he8 he9 hcut 1 m hm (by omega) (by omega) qm1 qm8 hn (hn126 he) rfl (beq_false_i hk) (beq_false_i ht) _ _ _ rfl rfl rfl _ _ _ rfl rfl rfl hM
              · rw [mN_no he h1] at hM
                exact m_4_t6 s i last h2 hi hs w HT A B hAs hBs hii hi2 hsi hxs hys he8 he9 hcut n m hm (by omega) (by omega) qm1 qm8 hn (hn126 he) (beq_false_i (by omega)) hM
end Go.Proofs.YtjjilhfebkeoeaaDoor.Ky
/- csi, read: walked. -/
namespace Go.Proofs.YtjjilhfebkeoeaaDoor.Ky
open Go Go.RowKit
open Go.Proofs.YtjjilhfebkeoeaaDoor.Wk (bcell bel_drew bel_drewN bel_alloc bel_set bel_call size_len mk_data beq_true_i bne_true_i bne_false_i beq_false_i drop_cons var_below)
set_option linter.unusedVariables false
set_option linter.unusedSimpArgs false




theorem csi_32 {l : List UInt8} (last : Bool) (h : scan l = 32) : csi last l = unknown (l.take 32) := by unfold csi; rw [if_pos h]
theorem csi_wait {l : List UInt8} (h : scan l ≠ 32) (he : l.length ≤ scan l) : csi false l = (key0, 0) := by
  unfold csi; rw [if_neg h, List.drop_of_length_le he]; rfl
theorem csi_two {l : List UInt8} (h : scan l = 2) (he : l.length ≤ scan l) : csi true l = withM 91 := by
  unfold csi; rw [if_neg (by omega), List.drop_of_length_le he, h]; rfl
theorem csi_unk {l : List UInt8} (h : scan l ≠ 32) (h2 : scan l ≠ 2) (he : l.length ≤ scan l) : csi true l = unknown (l.take (scan l)) := by
  unfold csi; rw [if_neg h, List.drop_of_length_le he, if_neg h2]; rfl
theorem csi_brk2 {l : List UInt8} {c : UInt8} {r : List UInt8} (last : Bool) (h : scan l = 2) (hd : l.drop (scan l) = c :: r) (hc : ¬ (64 ≤ c.toNat ∧ c.toNat ≤ 126)) : csi last l = withM 91 := by
  unfold csi; rw [if_neg (by omega), hd]; simp only; rw [if_neg hc, if_pos h]
theorem csi_brk {l : List UInt8} {c : UInt8} {r : List UInt8} (last : Bool) (h : scan l ≠ 32) (h2 : scan l ≠ 2) (hd : l.drop (scan l) = c :: r) (hc : ¬ (64 ≤ c.toNat ∧ c.toNat ≤ 126)) : csi last l = unknown (l.take (scan l)) := by
  unfold csi; rw [if_neg h, hd]; simp only; rw [if_neg hc, if_neg h2]
set_option maxHeartbeats 8000000 in
set_option maxRecDepth 100000 in
theorem csi_calls (s : ByteArray) (last : Bool) (h2 : 2 ≤ s.size) (hs : s.size ≤ 1000000000) (w : World) (hT : Tb w) :
    Calls Tryd.prog 53 #[.string s, .bool last] w fun e w' => e = .returned (knV (csi last s.data.toList)) ∧ Below w.heap.size w w' := by
  have HT := Lib.hid hT
  clear hT
  go_enter Tryd.func53, Tryd.ntmps53
  go_wp2
  go_step3
  go_wp2
  go_step3
  go_wp2
  go_loop [6] (fun v => ∃ i : Nat, v = .int .i64 i ∧ 2 ≤ i ∧ i ≤ 32 ∧ i ≤ s.size ∧ Hid (∀ j, 2 ≤ j → j < i → ∃ c, s.data.toList[j]? = some c ∧ inside c = true)) (fun v => s.size - (intOf v).toNat)
  case atStart => exact ⟨2, rfl, by omega, by omega, h2, fun j h1 h3 => absurd h1 (by omega)⟩
  case round =>
    obtain ⟨i, rfl, hi2, hi32, hil, hin⟩ := hrel
    have hx : (s.extract 0 i).size ≤ 1000000000 := by simp; omega
    have hii2 : (2 : Int) ≤ i := by omega
    by_cases hlt : i < s.size
    · have hc8 : (s[i].toNat : Int) < 256 := by have := s[i].toNat_lt; omega
      have hgt : Hid (s.data.toList[i]? = some s[i]) := by
        show _ = _
        rw [List.getElem?_eq_getElem (by rw [size_len]; exact hlt)]; rfl
      have hdr := Lib.hid (drop_cons s i hlt)
      have hilt : (i : Int) < s.size := by omega
      have qn : ((i : Int) == (s.size : Int)) = false := beq_false_i (by omega)
      by_cases e32 : i = 32
      · have H : Hid (csi last s.data.toList = unknown (s.data.toList.take i)) := by
          show _ = _
          rw [csi_32 last (scan_at (i := 32) (by omega) (by omega) (e32 ▸ hin.out) (.inl rfl)), e32]
        have q32 : ((i : Int) == 32) = true := beq_true_i (by omega)
        clear e32
        go_wp2_with (go_at_call 74; (with_reducible refine (unknown_calls _ _ hx).mono ?_); rintro e wz ⟨rfl, hb⟩; obtain ⟨hc', hf⟩ := bcell hb; have hz' := lt_alloc hb; unfold knV keyV)
        try rw [Exit.noGoto_ret]
        exact bodyPost_ret (v := knV (unknown (s.data.toList.take i))) (by simp [results, Tryd.results53, go_sem, hc', hz', knV, keyV]) rfl ⟨ret_p H.out, bel6 (bel_ca hb) (Nat.le_refl _)⟩
      · have q32 : ((i : Int) == 32) = false := beq_false_i (by omega)
        by_cases hm : 64 ≤ s[i].toNat ∧ s[i].toNat ≤ 126
        · have hni : inside s[i] = false := by unfold inside; rw [decide_eq_false_iff_not]; omega
          have hsc : scan s.data.toList = i := scan_at (by omega) (by omega) hin.out (.inr (.inr ⟨_, hgt.out, hni⟩))
          have H : Hid (csi last s.data.toList = meaning last s.data.toList i) := by
            show _ = _
            rw [csi_mean last (by omega) (by rw [hsc]; exact hdr.out) hm, hsc]
          have q1 : decide ((64 : Int) ≤ s[i].toNat) = true := by rw [decide_eq_true_eq]; omega
          have q2 : decide ((s[i].toNat : Int) ≤ 126) = true := by rw [decide_eq_true_eq]; omega
          clear hm hni hsc e32
          go_wp2_with (go_at_call 75; (with_reducible refine (meaning_calls s i last hi2 hlt hs _ (HT.out.below (bel_a _ _))).mono ?_); rintro e wz ⟨rfl, hb⟩; obtain ⟨hc', hf⟩ := bcell hb; have hz' := lt_alloc hb; unfold knV keyV)
          try rw [Exit.noGoto_ret]
          exact bodyPost_ret (v := knV (meaning last s.data.toList i)) (by simp [results, Tryd.results53, go_sem, hc', hz', knV, keyV]) rfl ⟨ret_p H.out, bel6 (bel_ca hb) (Nat.le_refl _)⟩
        · by_cases ho : s[i].toNat < 32 ∨ 63 < s[i].toNat
          · have hni : inside s[i] = false := by unfold inside; rw [decide_eq_false_iff_not]; omega
            have hsc : scan s.data.toList = i := scan_at (by omega) (by omega) hin.out (.inr (.inr ⟨_, hgt.out, hni⟩))
            by_cases e2 : i = 2
            · have H : Hid (csi last s.data.toList = withM 91) := csi_brk2 last (by omega) (by rw [hsc]; exact hdr.out) hm
              have qi2 : ((i : Int) == 2) = true := beq_true_i (by omega)
              rcases (show s[i].toNat < 32 ∨ (32 ≤ s[i].toNat ∧ 126 < s[i].toNat) from by omega) with h | h
              · have q1 : decide ((64 : Int) ≤ s[i].toNat) = false := by rw [decide_eq_false_iff_not]; omega
                have q3 : decide ((s[i].toNat : Int) < 32) = true := by rw [decide_eq_true_eq]; omega
                clear hm ho hni hsc e2 h e32
                go_wp2_with (go_at_call 76; (with_reducible refine (meta_calls 91 _).mono ?_); rintro e wz ⟨rfl, hb⟩; obtain ⟨hc', hf⟩ := bcell hb; have hz' := lt_alloc hb; unfold knV keyV withM)
                try rw [Exit.noGoto_ret]
                exact bodyPost_ret (v := .tuple #[.agg #[.int .i64 1, .int .i32 91, .bool false, .bool true, .bool false, .string ⟨#[]⟩], .int .i64 2]) (by simp [results, Tryd.results53, go_sem, hc', hz']) rfl ⟨ret_kn (k' := (withM 91).1) H.out, bel6 (bel_ca hb) (Nat.le_refl _)⟩
              · have q1 : decide ((64 : Int) ≤ s[i].toNat) = true := by rw [decide_eq_true_eq]; omega
                have q2 : decide ((s[i].toNat : Int) ≤ 126) = false := by rw [decide_eq_false_iff_not]; omega
                have q3 : decide ((s[i].toNat : Int) < 32) = false := by rw [decide_eq_false_iff_not]; omega
                have q4 : decide ((63 : Int) < s[i].toNat) = true := by rw [decide_eq_true_eq]; omega
                clear hm ho hni hsc e2 h e32
                go_wp2_with (go_at_call 76; (with_reducible refine (meta_calls 91 _).mono ?_); rintro e wz ⟨rfl, hb⟩; obtain ⟨hc', hf⟩ := bcell hb; have hz' := lt_alloc hb; unfold knV keyV withM)
                try rw [Exit.noGoto_ret]
                exact bodyPost_ret (v := .tuple #[.agg #[.int .i64 1, .int .i32 91, .bool false, .bool true, .bool false, .string ⟨#[]⟩], .int .i64 2]) (by simp [results, Tryd.results53, go_sem, hc', hz']) rfl ⟨ret_kn (k' := (withM 91).1) H.out, bel6 (bel_ca hb) (Nat.le_refl _)⟩
            · have H : Hid (csi last s.data.toList = unknown (s.data.toList.take i)) := by
                show _ = _
                rw [csi_brk last (by omega) (by omega) (by rw [hsc]; exact hdr.out) hm, hsc]
              have qi2 : ((i : Int) == 2) = false := beq_false_i (by omega)
              rcases (show s[i].toNat < 32 ∨ (32 ≤ s[i].toNat ∧ 126 < s[i].toNat) from by omega) with h | h
              · have q1 : decide ((64 : Int) ≤ s[i].toNat) = false := by rw [decide_eq_false_iff_not]; omega
                have q3 : decide ((s[i].toNat : Int) < 32) = true := by rw [decide_eq_true_eq]; omega
                clear hm ho hni hsc e2 h e32
                go_wp2_with (go_at_call 74; (with_reducible refine (unknown_calls _ _ hx).mono ?_); rintro e wz ⟨rfl, hb⟩; obtain ⟨hc', hf⟩ := bcell hb; have hz' := lt_alloc hb; unfold knV keyV)
                try rw [Exit.noGoto_ret]
                exact bodyPost_ret (v := knV (unknown (s.data.toList.take i))) (by simp [results, Tryd.results53, go_sem, hc', hz', knV, keyV]) rfl ⟨ret_p H.out, bel6 (bel_ca hb) (Nat.le_refl _)⟩
              · have q1 : decide ((64 : Int) ≤ s[i].toNat) = true := by rw [decide_eq_true_eq]; omega
                have q2 : decide ((s[i].toNat : Int) ≤ 126) = false := by rw [decide_eq_false_iff_not]; omega
                have q3 : decide ((s[i].toNat : Int) < 32) = false := by rw [decide_eq_false_iff_not]; omega
                have q4 : decide ((63 : Int) < s[i].toNat) = true := by rw [decide_eq_true_eq]; omega
                clear hm ho hni hsc e2 h e32
                go_wp2_with (go_at_call 74; (with_reducible refine (unknown_calls _ _ hx).mono ?_); rintro e wz ⟨rfl, hb⟩; obtain ⟨hc', hf⟩ := bcell hb; have hz' := lt_alloc hb; unfold knV keyV)
                try rw [Exit.noGoto_ret]
                exact bodyPost_ret (v := knV (unknown (s.data.toList.take i))) (by simp [results, Tryd.results53, go_sem, hc', hz', knV, keyV]) rfl ⟨ret_p H.out, bel6 (bel_ca hb) (Nat.le_refl _)⟩
          · have hni : Hid (inside s[i] = true) := (by unfold inside; rw [decide_eq_true_eq]; omega : inside s[i] = true)
            have q1 : decide ((64 : Int) ≤ s[i].toNat) = false := by rw [decide_eq_false_iff_not]; omega
            have q3 : decide ((s[i].toNat : Int) < 32) = false := by rw [decide_eq_false_iff_not]; omega
            have q4 : decide ((63 : Int) < s[i].toNat) = false := by rw [decide_eq_false_iff_not]; omega
            have hi33 : i + 1 ≤ 32 := by omega
            clear hm ho e32
            go_wp2
            go_round
            case rel => exact ⟨i + 1, by go_num, by omega, hi33, by omega, fun j h1 h3 => by
              rcases Nat.lt_or_ge j i with h | h
              · exact hin.out j h1 h
              · rw [show j = i from by omega]; exact ⟨_, hgt.out, hni.out⟩⟩
            case measure => simp [intOf]; omega
    · have hie : i = s.size := by omega
      have qn : ((i : Int) == (s.size : Int)) = true := beq_true_i (by omega)
      have hge : (s.size : Int) ≤ i := by omega
      have hsc : scan s.data.toList = i := scan_at (by omega) (by omega) hin.out (.inr (.inl (by rw [size_len]; omega)))
      by_cases e32 : i = 32
      · have q32 : ((i : Int) == 32) = true := beq_true_i (by omega)
        have H : Hid (csi last s.data.toList = unknown s.data.toList) := by
          show _ = _
          rw [csi_32 last (by omega), List.take_of_length_le (by rw [size_len]; omega)]
        have hx : s.size ≤ 1000000000 := hs
        clear hie hsc e32
        go_wp2_with (go_at_call 74; (with_reducible refine (unknown_calls _ _ hx).mono ?_); rintro e wz ⟨rfl, hb⟩; obtain ⟨hc', hf⟩ := bcell hb; have hz' := lt_alloc hb; unfold knV keyV)
        try rw [Exit.noGoto_ret]
        exact bodyPost_ret (v := knV (unknown (s.data.toList))) (by simp [results, Tryd.results53, go_sem, hc', hz', knV, keyV]) rfl ⟨ret_p H.out, bel6 (bel_ca hb) (Nat.le_refl _)⟩
      · have q32 : ((i : Int) == 32) = false := beq_false_i (by omega)
        cases last
        · have H : Hid (csi false s.data.toList = (key0, 0)) := csi_wait (by omega) (by rw [size_len]; omega)
          clear hie hsc e32
          go_wp2
          try rw [Exit.noGoto_ret]
          exact bodyPost_ret (v := .tuple #[.agg #[.int .i64 0, .int .i32 0, .bool false, .bool false, .bool false, .string ⟨#[]⟩], .int .i64 0]) (by simp [results, Tryd.results53, go_sem]) rfl ⟨ret_kn (k' := key0) H.out, bel_a _ _⟩
        · by_cases e2 : i = 2
          · have H : Hid (csi true s.data.toList = withM 91) := csi_two (by omega) (by rw [size_len]; omega)
            have qi2 : ((i : Int) == 2) = true := beq_true_i (by omega)
            clear hie hsc e32 e2
            go_wp2_with (go_at_call 76; (with_reducible refine (meta_calls 91 _).mono ?_); rintro e wz ⟨rfl, hb⟩; obtain ⟨hc', hf⟩ := bcell hb; have hz' := lt_alloc hb; unfold knV keyV withM)
            try rw [Exit.noGoto_ret]
            exact bodyPost_ret (v := .tuple #[.agg #[.int .i64 1, .int .i32 91, .bool false, .bool true, .bool false, .string ⟨#[]⟩], .int .i64 2]) (by simp [results, Tryd.results53, go_sem, hc', hz']) rfl ⟨ret_kn (k' := (withM 91).1) H.out, bel6 (bel_ca hb) (Nat.le_refl _)⟩
          · have H : Hid (csi true s.data.toList = unknown (s.data.toList.take i)) := by
              show _ = _
              rw [csi_unk (by omega) (by omega) (by rw [size_len]; omega), hsc]
            have qi2 : ((i : Int) == 2) = false := beq_false_i (by omega)
            clear hie hsc e32 e2
            go_wp2_with (go_at_call 74; (with_reducible refine (unknown_calls _ _ hx).mono ?_); rintro e wz ⟨rfl, hb⟩; obtain ⟨hc', hf⟩ := bcell hb; have hz' := lt_alloc hb; unfold knV keyV)
            try rw [Exit.noGoto_ret]
            exact bodyPost_ret (v := knV (unknown (s.data.toList.take i))) (by simp [results, Tryd.results53, go_sem, hc', hz', knV, keyV]) rfl ⟨ret_p H.out, bel6 (bel_ca hb) (Nat.le_refl _)⟩
end Go.Proofs.YtjjilhfebkeoeaaDoor.Ky
/- read: walked. -/
namespace Go.Proofs.YtjjilhfebkeoeaaDoor.Ky
open Go Go.RowKit
open Go.Proofs.YtjjilhfebkeoeaaDoor.Wk (bcell bel_drew bel_drewN bel_alloc bel_set bel_call size_len mk_data beq_true_i bne_true_i bne_false_i beq_false_i drop_cons var_below)
set_option linter.unusedVariables false
set_option linter.unusedSimpArgs false



set_option maxHeartbeats 2000000 in
set_option maxRecDepth 100000 in
theorem rd_p1 (s : ByteArray) (last : Bool) (h0 : 0 < s.size) (hs : s.size ≤ 1000000000) (w : World) (HT : Hid (Tb w)) (hc : (s[0].toNat : Int) < 256) (hz : (0 : Int) < s.size) (q0 : ((s[0].toNat : Int) != (((⟨#[27]⟩ : ByteArray)[0]'(by decide)).toNat : Int)) = true) (H : Hid (rd last s.data.toList = plain last s.data.toList)) :
    Calls Tryd.prog 36 #[.string s, .bool last] w fun e w' => e = .returned (knV (rd last s.data.toList)) ∧ Below w.heap.size w w' := by
  go_enter Tryd.func36, Tryd.ntmps36
  go_wp2
  go_quiet (fail)
  go_wp2_with (go_at_call 52; (with_reducible refine (plain_calls last s h0 _ (HT.out.below (bel_drewN (bel_a _ _) _))).mono ?_); rintro e wz ⟨rfl, hb⟩; obtain ⟨hc', hf⟩ := bcell hb; have hz' := lt_alloc_d hb; unfold knV keyV)
  exact bodyPost_ret (v := knV (plain last s.data.toList)) (by simp [results, Tryd.results36, go_sem, hc', hz', knV, keyV]) rfl ⟨ret_p H.out, bel6 (bel_call (bel_drewN (bel_a _ _) _) hb) (Nat.le_refl _)⟩
set_option maxHeartbeats 2000000 in
set_option maxRecDepth 100000 in
theorem rd_p2 (s : ByteArray) (last : Bool) (h0 : 0 < s.size) (hs : s.size ≤ 1000000000) (w : World) (HT : Hid (Tb w)) (hc : (s[0].toNat : Int) < 256) (hz : (0 : Int) < s.size) (q0 : ((s[0].toNat : Int) != (((⟨#[27]⟩ : ByteArray)[0]'(by decide)).toNat : Int)) = false) (q1 : ((s.size : Int) == 1) = true) (H : Hid (rd false s.data.toList = (key0, 0))) :
    Calls Tryd.prog 36 #[.string s, .bool false] w fun e w' => e = .returned (knV (rd false s.data.toList)) ∧ Below w.heap.size w w' := by
  go_enter Tryd.func36, Tryd.ntmps36
  go_wp2
  go_quiet (fail)
  go_wp2
  exact bodyPost_ret (v := .tuple #[.agg #[.int .i64 0, .int .i32 0, .bool false, .bool false, .bool false, .string ⟨#[]⟩], .int .i64 0]) (by simp [results, Tryd.results36, go_sem]) rfl ⟨ret_kn (k' := key0) H.out, bel6 (bel_drewN (bel_a _ _) _) (Nat.le_refl _)⟩
set_option maxHeartbeats 2000000 in
set_option maxRecDepth 100000 in
theorem rd_p3 (s : ByteArray) (last : Bool) (h0 : 0 < s.size) (hs : s.size ≤ 1000000000) (w : World) (HT : Hid (Tb w)) (hc : (s[0].toNat : Int) < 256) (hz : (0 : Int) < s.size) (q0 : ((s[0].toNat : Int) != (((⟨#[27]⟩ : ByteArray)[0]'(by decide)).toNat : Int)) = false) (q1 : ((s.size : Int) == 1) = true) (H : Hid (rd true s.data.toList = (named 3, 1))) :
    Calls Tryd.prog 36 #[.string s, .bool true] w fun e w' => e = .returned (knV (rd true s.data.toList)) ∧ Below w.heap.size w w' := by
  go_enter Tryd.func36, Tryd.ntmps36
  go_wp2
  go_quiet (fail)
  go_wp2
  exact bodyPost_ret (v := .tuple #[.agg #[.int .i64 3, .int .i32 0, .bool false, .bool false, .bool false, .string ⟨#[]⟩], .int .i64 1]) (by simp [results, Tryd.results36, go_sem]) rfl ⟨ret_kn (k' := named 3) H.out, bel6 (bel_drewN (bel_a _ _) _) (Nat.le_refl _)⟩
set_option maxHeartbeats 2000000 in
set_option maxRecDepth 100000 in
theorem rd_p4 (s : ByteArray) (last : Bool) (h0 : 0 < s.size) (hs : s.size ≤ 1000000000) (w : World) (HT : Hid (Tb w)) (hc : (s[0].toNat : Int) < 256) (hz : (0 : Int) < s.size) (q0 : ((s[0].toNat : Int) != (((⟨#[27]⟩ : ByteArray)[0]'(by decide)).toNat : Int)) = false) (h1 : 1 < s.size) (q1 : ((s.size : Int) == 1) = false) (hz1 : (1 : Int) < s.size) (hc1 : (s[1].toNat : Int) < 256) (q2 : ((s[1].toNat : Int) == (((⟨#[27]⟩ : ByteArray)[0]'(by decide)).toNat : Int)) = true) (H : Hid (rd last s.data.toList = (named 3, 1))) :
    Calls Tryd.prog 36 #[.string s, .bool last] w fun e w' => e = .returned (knV (rd last s.data.toList)) ∧ Below w.heap.size w w' := by
  go_enter Tryd.func36, Tryd.ntmps36
  go_wp2
  go_quiet (fail)
  go_wp2
  exact bodyPost_ret (v := .tuple #[.agg #[.int .i64 3, .int .i32 0, .bool false, .bool false, .bool false, .string ⟨#[]⟩], .int .i64 1]) (by simp [results, Tryd.results36, go_sem]) rfl ⟨ret_kn (k' := named 3) H.out, bel6 (bel_drewN (bel_a _ _) _) (Nat.le_refl _)⟩
set_option maxHeartbeats 2000000 in
set_option maxRecDepth 100000 in
theorem rd_p5 (s : ByteArray) (last : Bool) (h0 : 0 < s.size) (hs : s.size ≤ 1000000000) (w : World) (HT : Hid (Tb w)) (hc : (s[0].toNat : Int) < 256) (hz : (0 : Int) < s.size) (q0 : ((s[0].toNat : Int) != (((⟨#[27]⟩ : ByteArray)[0]'(by decide)).toNat : Int)) = false) (h1 : 1 < s.size) (q1 : ((s.size : Int) == 1) = false) (hz1 : (1 : Int) < s.size) (hc1 : (s[1].toNat : Int) < 256) (q2 : ((s[1].toNat : Int) == (((⟨#[27]⟩ : ByteArray)[0]'(by decide)).toNat : Int)) = false) (q3 : ((s[1].toNat : Int) == 91) = true) (h2 : 2 ≤ s.size) (H : Hid (rd last s.data.toList = csi last s.data.toList)) :
    Calls Tryd.prog 36 #[.string s, .bool last] w fun e w' => e = .returned (knV (rd last s.data.toList)) ∧ Below w.heap.size w w' := by
  go_enter Tryd.func36, Tryd.ntmps36
  go_wp2
  go_quiet (fail)
  go_wp2_with (go_at_call 53; (with_reducible refine (csi_calls s last h2 hs _ (HT.out.below (bel_drewN (bel_a _ _) _))).mono ?_); rintro e wz ⟨rfl, hb⟩; obtain ⟨hc', hf⟩ := bcell hb; have hz' := lt_alloc_d hb; unfold knV keyV)
  exact bodyPost_ret (v := knV (csi last s.data.toList)) (by simp [results, Tryd.results36, go_sem, hc', hz', knV, keyV]) rfl ⟨ret_p H.out, bel6 (bel_call (bel_drewN (bel_a _ _) _) hb) (Nat.le_refl _)⟩
set_option maxHeartbeats 2000000 in
set_option maxRecDepth 100000 in
theorem rd_p6 (s : ByteArray) (last : Bool) (h0 : 0 < s.size) (hs : s.size ≤ 1000000000) (w : World) (HT : Hid (Tb w)) (hc : (s[0].toNat : Int) < 256) (hz : (0 : Int) < s.size) (q0 : ((s[0].toNat : Int) != (((⟨#[27]⟩ : ByteArray)[0]'(by decide)).toNat : Int)) = false) (h1 : 1 < s.size) (q1 : ((s.size : Int) == 1) = false) (hz1 : (1 : Int) < s.size) (hc1 : (s[1].toNat : Int) < 256) (q2 : ((s[1].toNat : Int) == (((⟨#[27]⟩ : ByteArray)[0]'(by decide)).toNat : Int)) = false) (q3 : ((s[1].toNat : Int) == 91) = false) (q4 : ((s[1].toNat : Int) == 79) = true) (h2 : 2 ≤ s.size) (H : Hid (rd last s.data.toList = ss3 last s.data.toList)) :
    Calls Tryd.prog 36 #[.string s, .bool last] w fun e w' => e = .returned (knV (rd last s.data.toList)) ∧ Below w.heap.size w w' := by
  go_enter Tryd.func36, Tryd.ntmps36
  go_wp2
  go_quiet (fail)
  go_wp2_with (go_at_call 54; (with_reducible refine (ss3_calls last s h2 hs _).mono ?_); rintro e wz ⟨rfl, hb⟩; obtain ⟨hc', hf⟩ := bcell hb; have hz' := lt_alloc_d hb; unfold knV keyV)
  exact bodyPost_ret (v := knV (ss3 last s.data.toList)) (by simp [results, Tryd.results36, go_sem, hc', hz', knV, keyV]) rfl ⟨ret_p H.out, bel6 (bel_call (bel_drewN (bel_a _ _) _) hb) (Nat.le_refl _)⟩
set_option maxHeartbeats 2000000 in
set_option maxRecDepth 100000 in
theorem rd_p7 (s : ByteArray) (last : Bool) (h0 : 0 < s.size) (hs : s.size ≤ 1000000000) (w : World) (HT : Hid (Tb w)) (hc : (s[0].toNat : Int) < 256) (hz : (0 : Int) < s.size) (q0 : ((s[0].toNat : Int) != (((⟨#[27]⟩ : ByteArray)[0]'(by decide)).toNat : Int)) = false) (h1 : 1 < s.size) (q1 : ((s.size : Int) == 1) = false) (hz1 : (1 : Int) < s.size) (hc1 : (s[1].toNat : Int) < 256) (q2 : ((s[1].toNat : Int) == (((⟨#[27]⟩ : ByteArray)[0]'(by decide)).toNat : Int)) = false) (q3 : ((s[1].toNat : Int) == 91) = false) (q4 : ((s[1].toNat : Int) == 79) = false) (hx0 : 0 < (s.extract 1 s.size).size) (p : Key × Nat) (P : Hid (plain last (s.extract 1 s.size).data.toList = p)) (q5 : ((p.2 : Int) == 0) = true) (H : Hid (rd last s.data.toList = (key0, 0))) :
    Calls Tryd.prog 36 #[.string s, .bool last] w fun e w' => e = .returned (knV (rd last s.data.toList)) ∧ Below w.heap.size w w' := by
  go_enter Tryd.func36, Tryd.ntmps36
  go_wp2
  go_quiet (fail)
  go_wp2_with (go_at_call 52; (with_reducible refine (plain_calls last _ hx0 _ (HT.out.below (bel_drewN (bel_a _ _) _))).mono ?_); rintro e wz ⟨rfl, hb⟩; rw [P.out]; obtain ⟨hc', hf⟩ := bcell hb; have hz' := lt_alloc_d hb; unfold knV keyV)
  exact bodyPost_ret (v := .tuple #[.agg #[.int .i64 0, .int .i32 0, .bool false, .bool false, .bool false, .string ⟨#[]⟩], .int .i64 0]) (by simp [results, Tryd.results36, go_sem, hc', hz']) rfl ⟨ret_kn (k' := key0) H.out, bel_alloc (bel6 (bel_call (bel_drewN (bel_a _ _) _) hb) (Nat.le_refl _)) _⟩
set_option maxHeartbeats 2000000 in
set_option maxRecDepth 100000 in
theorem rd_p8 (s : ByteArray) (last : Bool) (h0 : 0 < s.size) (hs : s.size ≤ 1000000000) (w : World) (HT : Hid (Tb w)) (hc : (s[0].toNat : Int) < 256) (hz : (0 : Int) < s.size) (q0 : ((s[0].toNat : Int) != (((⟨#[27]⟩ : ByteArray)[0]'(by decide)).toNat : Int)) = false) (h1 : 1 < s.size) (q1 : ((s.size : Int) == 1) = false) (hz1 : (1 : Int) < s.size) (hc1 : (s[1].toNat : Int) < 256) (q2 : ((s[1].toNat : Int) == (((⟨#[27]⟩ : ByteArray)[0]'(by decide)).toNat : Int)) = false) (q3 : ((s[1].toNat : Int) == 91) = false) (q4 : ((s[1].toNat : Int) == 79) = false) (hx0 : 0 < (s.extract 1 s.size).size) (p : Key × Nat) (P : Hid (plain last (s.extract 1 s.size).data.toList = p)) (q5 : ((p.2 : Int) == 0) = false) (hp : (p.2 : Int) ≤ 4) (H : Hid (rd last s.data.toList = ({ p.1 with mt := true }, p.2 + 1))) :
    Calls Tryd.prog 36 #[.string s, .bool last] w fun e w' => e = .returned (knV (rd last s.data.toList)) ∧ Below w.heap.size w w' := by
  go_enter Tryd.func36, Tryd.ntmps36
  go_wp2
  go_quiet (fail)
  go_wp2_with (go_at_call 52; (with_reducible refine (plain_calls last _ hx0 _ (HT.out.below (bel_drewN (bel_a _ _) _))).mono ?_); rintro e wz ⟨rfl, hb⟩; rw [P.out]; obtain ⟨hc', hf⟩ := bcell hb; have hz' := lt_alloc_d hb; unfold knV keyV)
  exact bodyPost_ret (v := .tuple #[keyV { p.1 with mt := true }, .int .i64 (p.2 + 1 : Nat)]) (by simp [results, Tryd.results36, go_sem, hc', hz', keyV]) rfl ⟨ret_p H.out, bel_alloc (bel6 (bel_call (bel_drewN (bel_a _ _) _) hb) (Nat.le_refl _)) _⟩
theorem rd_calls (s : ByteArray) (last : Bool) (h0 : 0 < s.size) (hs : s.size ≤ 1000000000) (w : World) (hT : Tb w) :
    Calls Tryd.prog 36 #[.string s, .bool last] w fun e w' => e = .returned (knV (rd last s.data.toList)) ∧ Below w.heap.size w w' := by
  obtain ⟨r, hl⟩ := head_of s h0
  have hc : (s[0].toNat : Int) < 256 := by have := s[0].toNat_lt; omega
  have hz : (0 : Int) < s.size := by omega
  by_cases h1 : s[0].toNat ≠ 27
  · exact rd_p1 s last h0 hs w (Lib.hid hT) hc hz (bne_true_i (fun e => h1 (by have : ((⟨#[27]⟩ : ByteArray)[0]'(by decide)).toNat = 27 := rfl; omega))) (by show _ = _; rw [hl]; simp only [rd]; rw [if_pos h1])
  have q0 : ((s[0].toNat : Int) != (((⟨#[27]⟩ : ByteArray)[0]'(by decide)).toNat : Int)) = false := bne_false_i (by have : ((⟨#[27]⟩ : ByteArray)[0]'(by decide)).toNat = 27 := rfl; omega)
  by_cases g1 : s.size = 1
  · have hr : r = [] := by
      have := size_len s
      rw [hl] at this
      simp only [List.length_cons] at this
      exact List.eq_nil_of_length_eq_zero (by omega)
    subst hr
    cases last
    · exact rd_p2 s false h0 hs w (Lib.hid hT) hc hz q0 (beq_true_i (by omega)) (by show _ = _; rw [hl]; simp only [rd]; rw [if_neg h1]; rfl)
    · exact rd_p3 s true h0 hs w (Lib.hid hT) hc hz q0 (beq_true_i (by omega)) (by show _ = _; rw [hl]; simp only [rd]; rw [if_neg h1]; rfl)
  have g2 : 1 < s.size := by omega
  have hl1 : s.data.toList = s[0] :: s[1] :: s.data.toList.drop 2 := by
    have a := drop_cons s 0 h0
    have b := drop_cons s 1 g2
    rw [List.drop_zero] at a
    rw [a, b]; rfl
  have hc1 : (s[1].toNat : Int) < 256 := by have := s[1].toNat_lt; omega
  have q1 : ((s.size : Int) == 1) = false := beq_false_i (by omega)
  have e27 : ((⟨#[27]⟩ : ByteArray)[0]'(by decide)).toNat = 27 := rfl
  by_cases h2 : s[1].toNat = 27
  · exact rd_p4 s last h0 hs w (Lib.hid hT) hc hz q0 g2 q1 (by omega) hc1 (beq_true_i (by omega)) (by show _ = _; rw [hl1]; simp only [rd]; rw [if_neg h1, if_pos h2])
  have q2 : ((s[1].toNat : Int) == (((⟨#[27]⟩ : ByteArray)[0]'(by decide)).toNat : Int)) = false := beq_false_i (by omega)
  by_cases h3 : s[1].toNat = 91
  · exact rd_p5 s last h0 hs w (Lib.hid hT) hc hz q0 g2 q1 (by omega) hc1 q2 (beq_true_i (by omega)) (by omega) (by show _ = _; rw [hl1]; simp only [rd]; rw [if_neg h1, if_neg h2, if_pos h3])
  have q3 : ((s[1].toNat : Int) == 91) = false := beq_false_i (by omega)
  by_cases h4 : s[1].toNat = 79
  · exact rd_p6 s last h0 hs w (Lib.hid hT) hc hz q0 g2 q1 (by omega) hc1 q2 q3 (beq_true_i (by omega)) (by omega) (by show _ = _; rw [hl1]; simp only [rd]; rw [if_neg h1, if_neg h2, if_neg h3, if_pos h4])
  have q4 : ((s[1].toNat : Int) == 79) = false := beq_false_i (by omega)
  have hx : (s.extract 1 s.size).data.toList = s[1] :: s.data.toList.drop 2 := by rw [Lib.extract_to_end]; exact drop_cons s 1 g2
  have hx0 : 0 < (s.extract 1 s.size).size := by simp; omega
  obtain ⟨p, hp⟩ : ∃ p, plain last (s.extract 1 s.size).data.toList = p := ⟨_, rfl⟩
  have hp' := hp
  rw [hx] at hp'
  by_cases h5 : p.2 = 0
  · exact rd_p7 s last h0 hs w (Lib.hid hT) hc hz q0 g2 q1 (by omega) hc1 q2 q3 q4 hx0 p hp (beq_true_i (by omega)) (by show _ = _; rw [hl1]; simp only [rd]; rw [if_neg h1, if_neg h2, if_neg h3, if_neg h4, hp', if_pos h5])
  · have h4' : p.2 ≤ 4 := by
      have hb := fst_bound (s[1] :: s.data.toList.drop 2)
      rw [← hp']
      unfold plain
      split
      · simp
      · split
        · simp
        · split
          · simp
          · split
            · simp
            · split
              · simp
              · rename_i a t heq _ _ _ _
                simp only [List.cons.injEq] at heq
                obtain ⟨rfl, rfl⟩ := heq
                exact hb.2.2
    exact rd_p8 s last h0 hs w (Lib.hid hT) hc hz q0 g2 q1 (by omega) hc1 q2 q3 q4 hx0 p hp (beq_false_i (by omega)) (by omega) (by show _ = _; rw [hl1]; simp only [rd]; rw [if_neg h1, if_neg h2, if_neg h3, if_neg h4, hp', if_neg h5])
end Go.Proofs.YtjjilhfebkeoeaaDoor.Ky
