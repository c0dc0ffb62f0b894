/- Each key makes one command, or waits: what is made is as the law asks. -/
import Derived.Test.YtgkaiagoogjibaaBkD
import Derived.Test.YtgkaiagoogjibaaPBindx19
namespace Go.Proofs.Ytgkaiagoogjibaa.Bk
open Go Go.RowKit Go.Proofs.Ytgkaiagoogjibaa.PBind Go.Proofs.YtgkaiagoogjibaaW.PrintWords Go.Proofs.YtgkaiagoogjibaaW.PrintLast Go.Proofs.YtgkaiagoogjibaaW.PrintMore
set_option linter.unusedVariables false

/-- What a made command is: its kind of the table, a text just where it lays one, a mark's name just where it is about a mark. -/
structure Good (r : Int × ByteArray × Int) : Prop where
  lo : 1 ≤ r.1
  hi : r.1 ≤ 40
  bare : r.2.1.toList = [] → r.1 ≠ 1
  text : r.2.1.toList ≠ [] → r.1 = 1 ∨ r.1 = 39
  mark : (r.1 = 29 ∨ r.1 = 30) ↔ r.2.2 ≠ 0
theorem nil_list : (⟨#[]⟩ : ByteArray).toList = [] := by kernel_rfl
theorem tab_list : (⟨#[9]⟩ : ByteArray).toList = [9] := by kernel_rfl
theorem good_none {n : Int} (h : 2 ≤ n ∧ n ≤ 40 ∧ n ≠ 29 ∧ n ≠ 30) : Good (n, ⟨#[]⟩, 0) :=
  ⟨by show 1 ≤ n; omega, h.2.1, fun _ => by show n ≠ 1; omega, fun h => absurd nil_list h, by show (n = 29 ∨ n = 30) ↔ (0 : Int) ≠ 0; omega⟩
theorem good_ins (s : ByteArray) : Good (ins s) := by
  unfold ins
  split
  · exact good_none (by omega)
  · rename_i h
    exact ⟨by simp, by simp, fun e => absurd e h, fun _ => .inl rfl, by simp⟩
theorem look_all {P : Int → Prop} (h0 : P 40) (c : Int) : ∀ l : List (Int × Int), (∀ x ∈ l, P x.2) → P (look l c)
  | [], _ => h0
  | (a, b) :: l, h => by
    unfold look
    split
    · exact h (a, b) (by simp)
    · exact look_all h0 c l fun x hx => h x (by simp [hx])
def plainN (n : Int) : Prop := 2 ≤ n ∧ n ≤ 40 ∧ n ≠ 29 ∧ n ≠ 30
instance (n : Int) : Decidable (plainN n) := by unfold plainN; infer_instance
theorem good_mta (c : Int) : Good (mta c, ⟨#[]⟩, 0) := good_none (look_all (P := plainN) (by decide) c mtaL (by decide))
theorem good_nmd (kind : Int) (far : Bool) : Good (nmd kind far, ⟨#[]⟩, 0) := by
  refine good_none (look_all (P := plainN) (by decide) kind _ ?_)
  cases far <;> decide
theorem good_ctl (c : Int) : Good (ctlS c) := by
  have h : (fun n : Int => n = 1 ∨ n = 29 ∨ plainN n) (ctl c) := look_all (P := fun n => n = 1 ∨ n = 29 ∨ plainN n) (by decide) c ctlL (by decide)
  unfold ctlS
  rcases h with h | h | h
  · rw [h]; exact ⟨by decide, by decide, fun e => absurd (tab_list.symm.trans e) (by simp), fun _ => .inl rfl, by decide⟩
  · rw [h]; exact ⟨by decide, by decide, fun _ => by decide, fun e => absurd nil_list e, by decide⟩
  · have h1 : ctl c ≠ 1 := by unfold plainN at h; omega
    have h2 : ctl c ≠ 29 := by unfold plainN at h; omega
    rw [if_neg h1, if_neg h2]; exact good_none h
theorem good_sgl (kind c : Int) (ct mt : Bool) (tx : ByteArray) : Good (sgl kind c ct mt tx) := by
  unfold sgl
  split
  · split
    · exact good_none (by omega)
    · split
      · exact good_mta c
      · exact good_ins _
  · split
    · split
      · exact good_none (by omega)
      · exact good_ins _
    · split
      · split
        · split <;> exact good_none (by omega)
        · exact good_ctl c
      · split
        · exact ⟨by simp, by simp, fun _ => by simp, fun _ => .inr rfl, by simp⟩
        · exact good_nmd _ _
theorem good_quo (kind c : Int) (ct mt : Bool) (tx : ByteArray) : Good (quo kind c ct mt tx) := by
  unfold quo
  repeat' split
  all_goals first | exact good_ins _ | exact good_none (by omega)
theorem letter_mark {kind c : Int} {ct mt : Bool} (h : letter kind c ct mt = true) : c % 256 ≠ 0 := by
  unfold letter at h
  simp only [Bool.and_eq_true, Bool.or_eq_true, decide_eq_true_eq] at h
  omega
theorem good_snd (p kind c : Int) (ct mt : Bool) : Good (snd p kind c ct mt) := by
  unfold snd
  split
  · exact good_none (by omega)
  · split
    · rename_i h
      simp only [Bool.and_eq_true] at h
      exact ⟨by simp, by simp, fun _ => by simp, fun e => absurd nil_list e, ⟨fun _ => letter_mark h.2, fun _ => .inl rfl⟩⟩
    · split
      · rename_i h
        simp only [Bool.and_eq_true] at h
        exact ⟨by simp, by simp, fun _ => by simp, fun e => absurd nil_list e, ⟨fun _ => letter_mark h.2, fun _ => .inr rfl⟩⟩
      · repeat' split
        all_goals exact good_none (by omega)
theorem good_cmd (p kind c : Int) (ct mt : Bool) (tx : ByteArray) : Good (cmdS p kind c ct mt tx) := by
  unfold cmdS
  split
  · exact good_sgl _ _ _ _ _
  · split
    · exact good_quo _ _ _ _ _
    · exact good_snd _ _ _ _ _

/-- Behind a made command the law's own tests are passed. -/
theorem one_j (k : Nat) (l : List S25) (n i : Int) (p : Int) (cs : Bool) (cn kind cnt_ : Int) (tx : ByteArray) (mk : Int) (hg : Good (kind, tx, mk)) (h37 : kind = 37 → cnt_ = 1) :
    bodkinlaw19_BindOne.j1 (k + 3) l n i false p cs cn kind cnt_ tx mk = bodkinlaw19_BindOne.l0 k l n (wrap64 (i + 1)) p cs cn := by
  obtain ⟨-, -, hb, ht, hm⟩ := hg
  simp only at hb ht hm
  have j3 : ∀ b : Bool, (b = true ↔ (kind = 29 ∨ kind = 30)) → bodkinlaw19_BindOne.j3 (k + 1) b l n i p cs cn kind cnt_ tx mk = bodkinlaw19_BindOne.l0 k l n (wrap64 (i + 1)) p cs cn := by
    intro b e
    rw [bodkinlaw19_BindOne.j3]
    have : (b != (mk != 0)) = false := by
      cases b with
      | true =>
        have h1 : mk ≠ 0 := hm.mp (e.mp rfl)
        simp [h1]
      | false =>
        have h1 : mk = 0 := by
          by_cases h : mk = 0
          · exact h
          · exact absurd (e.mpr (hm.mpr h)) (by decide)
        simp [h1]
    rw [this, if_neg (by decide)]
    by_cases h : kind = 37
    · rw [if_pos h, if_pos (h37 h)]
    · rw [if_neg h]
  have j2 : bodkinlaw19_BindOne.j2 (k + 2) l n i false p cs cn kind cnt_ tx mk = bodkinlaw19_BindOne.l0 k l n (wrap64 (i + 1)) p cs cn := by
    rw [bodkinlaw19_BindOne.j2, if_neg (by decide)]
    by_cases h : kind = 29
    · rw [if_pos h]; exact j3 true (by simp [h])
    · rw [if_neg h]; exact j3 (kind == 30) (by simp [h])
  rw [bodkinlaw19_BindOne.j1, if_neg (by decide)]
  by_cases h : tx.toList = ([] : List UInt8)
  · rw [if_pos h, if_neg (hb h)]; exact j2
  · rw [if_neg h]
    have e : (tx.toList == ([] : List UInt8)) = false := beq_eq_false_iff_ne.mpr h
    rw [e]
    rcases ht h with h1 | h1
    · rw [if_pos h1]; exact j2
    · rw [if_neg (by omega), if_pos h1]; exact j2

theorem keyS_cases (p : Int) (cs : Bool) (cn kind c : Int) (ct mt : Bool) (tx : ByteArray) :
    (p = 0 ∧ 48 ≤ c ∧ c ≤ 57 ∧ keyS p cs cn kind c ct mt tx = ((0, 0, ⟨#[]⟩, 0, false), (p, true, dig cn c))) ∨
    (p = 0 ∧ pfx kind c ct mt ≠ 0 ∧ keyS p cs cn kind c ct mt tx = ((0, 0, ⟨#[]⟩, 0, false), (pfx kind c ct mt, cs, cn))) ∨
    keyS p cs cn kind c ct mt tx = (((cmdS p kind c ct mt tx).1, (if (cmdS p kind c ct mt tx).1 = 37 then 1 else cnt cs cn), (cmdS p kind c ct mt tx).2.1, (cmdS p kind c ct mt tx).2.2, true), (0, false, 0)) := by
  unfold keyS
  by_cases h : isDig p cs kind c ct mt = true
  · rw [if_pos h]; exact .inl ⟨(isDig_char h).1, (isDig_char h).2.1, (isDig_char h).2.2, rfl⟩
  · rw [if_neg h]
    by_cases h2 : p = 0 ∧ pfx kind c ct mt ≠ 0
    · rw [if_pos h2]; exact .inr (.inl ⟨h2.1, h2.2, rfl⟩)
    · rw [if_neg h2]; exact .inr (.inr rfl)
theorem cnt_range {cs : Bool} {cn : Int} (h0 : 0 ≤ cn) (h1 : cn ≤ 1000) : 1 ≤ cnt cs cn ∧ cnt cs cn ≤ 1000 := by
  unfold cnt mx; cases cs <;> simp <;> (try split) <;> omega
theorem prefix_nil (cs : Bool) (cn : Int) : bind_Binder_Prefix.f 0 cs cn = some (⟨#[]⟩, 0, cs, cn) := rfl
theorem prefix_some (p : Int) (cs : Bool) (cn : Int) : ∃ t, bind_Binder_Prefix.f p cs cn = some (t, p, cs, cn) ∧ (p ≠ 0 → p = 120 ∨ p = 113 ∨ p = 109 ∨ p = 39 → t.toList ≠ []) ∧ (p = 0 → t.toList = []) := by
  unfold bind_Binder_Prefix.f
  by_cases h : p = 0
  · rw [if_pos h]; exact ⟨_, rfl, fun h1 => absurd h h1, fun _ => nil_list⟩
  · rw [if_neg h]
    refine ⟨_, rfl, fun _ h1 => ?_, fun h1 => absurd h1 h⟩
    have e1 : (strOfNums [120]).toList = [120] := by kernel_rfl
    have e2 : (strOfNums [113]).toList = [113] := by kernel_rfl
    have e3 : (strOfNums [109]).toList = [109] := by kernel_rfl
    have e4 : (strOfNums [39]).toList = [39] := by kernel_rfl
    rcases h1 with rfl | rfl | rfl | rfl
    · rw [e1]; simp
    · rw [e2]; simp
    · rw [e3]; simp
    · rw [e4]; simp
theorem one_loop (l : List S25) (hl : l.length < 10000000000000) : ∀ (n m : Nat) (i : Int) (s : St), okS s → 0 ≤ i → i + n = (l.length : Int) → 4 * n + 100 < m →
    bodkinlaw19_BindOne.l0 m l (l.length : Int) i s.1 s.2.1 s.2.2 = some true := by
  intro n
  induction n with
  | zero =>
    intro m i s hs h0 h1 hm
    obtain ⟨m, rfl⟩ : ∃ q, m = q + 1 := ⟨m - 1, by omega⟩
    rw [bodkinlaw19_BindOne.l0, if_neg (by omega)]
  | succ n ih =>
    intro m i s hs h0 h1 hm
    obtain ⟨m, rfl⟩ : ∃ q, m = (q + 40) + 1 := ⟨m - 41, by omega⟩
    obtain ⟨p, cs, cn⟩ := s
    obtain ⟨hp, hc0, hc1⟩ := hs
    simp only at hp hc0 hc1
    have hnext : ∀ (q : Nat) (s : St), okS s → 4 * n + 100 < q → bodkinlaw19_BindOne.l0 q l (l.length : Int) (wrap64 (i + 1)) s.1 s.2.1 s.2.2 = some true := by
      intro q s hs hq
      rw [wrap64_id (by omega) (by omega)]
      exact ih q (i + 1) s hs (by omega) (by omega) hq
    obtain ⟨t0, e0, -, e0'⟩ := prefix_some p cs cn
    have hk := key_of m p cs cn (rd_T25 l i).f0 (rd_T25 l i).f1 (rd_T25 l i).f2 (rd_T25 l i).f3 (rd_T25 l i).f4 (rd_T25 l i).f5 hc0 hc1
    have hok := keyS_isP (kind := (rd_T25 l i).f0) (c := (rd_T25 l i).f1) (ct := (rd_T25 l i).f2) (mt := (rd_T25 l i).f3) (tx := (rd_T25 l i).f5) (cs := cs) hp hc0 hc1
    rw [bodkinlaw19_BindOne.l0, if_pos (by omega), if_pos h0, if_pos (by omega)]
    simp only [e0, Option.bind_some]
    rcases keyS_cases p cs cn (rd_T25 l i).f0 (rd_T25 l i).f1 (rd_T25 l i).f2 (rd_T25 l i).f3 (rd_T25 l i).f5 with ⟨hp0, hca, hcb, e⟩ | ⟨hp0, hpf, e⟩ | e
    · rw [e] at hk hok
      simp only [hk, Option.bind_some, count_of]
      rw [if_neg (by decide), if_pos (eqb36_self _ _ _ _), if_pos (e0' hp0)]
      subst hp0
      simp only [prefix_nil, Option.bind_some]
      have hr := cnt_range (cs := true) hok.2.1 hok.2.2
      simp only at hr
      rw [if_pos nil_list, if_pos trivial, if_neg (by omega), if_neg (by omega)]
      exact hnext _ (0, true, dig cn (rd_T25 l i).f1) hok (by omega)
    · rw [e] at hk hok
      simp only [hk, Option.bind_some, count_of]
      rw [if_neg (by decide), if_pos (eqb36_self _ _ _ _), if_pos (e0' hp0)]
      obtain ⟨t1, e1, e1', -⟩ := prefix_some (pfx (rd_T25 l i).f0 (rd_T25 l i).f1 (rd_T25 l i).f2 (rd_T25 l i).f3) cs cn
      simp only [e1, Option.bind_some]
      have hr := cnt_range (cs := cs) hc0 hc1
      have hne := e1' hpf (by rcases hok.1 with h | h | h | h | h <;> simp only at h <;> omega)
      rw [if_neg hne, if_neg (by omega), if_neg (by omega)]
      exact hnext _ (pfx (rd_T25 l i).f0 (rd_T25 l i).f1 (rd_T25 l i).f2 (rd_T25 l i).f3, cs, cn) hok (by omega)
    · rw [e] at hk hok
      simp only [hk, Option.bind_some, count_of, prefix_nil]
      have hg := good_cmd p (rd_T25 l i).f0 (rd_T25 l i).f1 (rd_T25 l i).f2 (rd_T25 l i).f3 (rd_T25 l i).f5
      generalize cmdS p (rd_T25 l i).f0 (rd_T25 l i).f1 (rd_T25 l i).f2 (rd_T25 l i).f3 (rd_T25 l i).f5 = r at hg ⊢
      obtain ⟨kd, tx, mk⟩ := r
      have hr := cnt_range (cs := cs) hc0 hc1
      have hlo := hg.lo
      have hhi := hg.hi
      simp only at hlo hhi
      have hq : (1 : Int) ≤ (if kd = 37 then 1 else cnt cs cn) ∧ (if kd = 37 then 1 else cnt cs cn) ≤ 1000 := by split <;> omega
      have h37 : kd = 37 → (if kd = 37 then (1 : Int) else cnt cs cn) = 1 := fun h => by rw [if_pos h]
      simp only
      generalize (if kd = 37 then (1 : Int) else cnt cs cn) = cc at hq h37 ⊢
      have hcf : cnt false 0 = 1 := rfl
      rw [if_pos trivial, if_pos nil_list, if_neg (by decide), if_pos hcf, if_neg (by omega), if_neg (by omega), if_neg (by omega), decide_eq_false (by omega)]
      rw [show m + 40 = (m + 37) + 3 by omega, one_j (m + 37) l _ i 0 false 0 kd cc tx mk hg h37]
      exact hnext _ (0, false, 0) hok (by omega)
theorem one_true (l : List S25) (hl : l.length < 10000000000000) : bodkinlaw19_BindOne.f (4 * l.length + 200 + 100 + 1) l = some true := by
  unfold bodkinlaw19_BindOne.f
  rw [binds_true, Option.bind_some, if_pos rfl]
  have h : bind_New.f = some (0, false, 0) := rfl
  rw [h, Option.bind_some]
  exact one_loop l hl l.length _ 0 st0 st0_ok (by omega) (by omega) (by omega)
end Go.Proofs.Ytgkaiagoogjibaa.Bk
