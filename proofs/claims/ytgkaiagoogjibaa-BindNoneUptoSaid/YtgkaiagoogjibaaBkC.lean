/- A key behind a prefix, the prefixes, and one call of Key: the program's and the reference's answer, in one closed form. -/
import Derived.Test.YtgkaiagoogjibaaBkB
namespace Go.Proofs.Ytgkaiagoogjibaa.Bk
open Go Go.RowKit Go.Proofs.Ytgkaiagoogjibaa.PBind Go.Proofs.YtgkaiagoogjibaaW.PrintWords Go.Proofs.YtgkaiagoogjibaaW.PrintLast Go.Proofs.YtgkaiagoogjibaaW.PrintMore

def quo (kind c : Int) (ct mt : Bool) (tx : ByteArray) : Int × ByteArray × Int :=
  if mt then (40, ⟨#[]⟩, 0)
  else if kind = 1 then (if ct then (40, ⟨#[]⟩, 0) else ins (strOfNums (encL c)))
  else if kind = 4 then (if ct then (40, ⟨#[]⟩, 0) else ins tx)
  else if kind = 2 then (if c = 63 then ins ⟨#[127]⟩ else if 64 ≤ c ∧ c ≤ 95 then ins (strOfNums [wrap32 (c - 64) % 256]) else (40, ⟨#[]⟩, 0))
  else if kind = 3 then ins ⟨#[27]⟩ else (40, ⟨#[]⟩, 0)

theorem quoted_of (m : Nat) (kind c : Int) (ct mt sh : Bool) (tx : ByteArray) :
    ((bind_quoted.f (m + 3) kind c ct mt sh tx).bind fun bt192 => (if bt192.2 = true then ((bind_inserts.f bt192.1).bind fun bt194 => (some (bt194.1, bt194.2.1, bt194.2.2.1, bt194.2.2.2))) else (some ((40 : Int), (1 : Int), (⟨#[]⟩ : ByteArray), (0 : Int)))))
      = some ((quo kind c ct mt tx).1, 1, (quo kind c ct mt tx).2.1, (quo kind c ct mt tx).2.2) := by
  unfold bind_quoted.f quo
  cases mt with
  | true => rfl
  | false =>
    simp only [Bool.false_eq_true, if_false]
    by_cases h1 : kind = 1
    · rw [if_pos h1, if_pos h1]
      cases ct <;> simp [unit_enc, inserts_of]
    · rw [if_neg h1, if_neg h1]
      by_cases h4 : kind = 4
      · rw [if_pos h4, if_pos h4]
        cases ct <;> simp [inserts_of]
      · rw [if_neg h4, if_neg h4]
        by_cases h2 : kind = 2
        · rw [if_pos h2, if_pos h2]
          by_cases a : c = 63
          · simp [a, inserts_of]
          · rw [if_neg a, if_neg a]
            simp only [Option.bind_some]
            by_cases d : c ≥ 64
            · by_cases e : c ≤ 95
              · simp [d, e, inserts_of]
              · rw [if_pos d, if_neg (by omega)]; simp [e]
            · rw [if_neg d, if_neg (by omega)]; simp
        · rw [if_neg h2, if_neg h2]
          by_cases h3 : kind = 3
          · simp [h3, inserts_of]
          · simp [h3]

def bare (kind : Int) (ct mt : Bool) : Bool := decide (kind = 1) && (!ct && !mt)
def letter (kind c : Int) (ct mt : Bool) : Bool := bare kind ct mt && (decide (c = 64) || (decide (97 ≤ c) && decide (c ≤ 122)))
def ctrlOf (kind c : Int) (mt : Bool) (x : Int) : Bool := decide (kind = 2) && (!mt && decide (c = x))

def snd (p kind c : Int) (ct mt : Bool) : Int × ByteArray × Int :=
  if ctrlOf kind c mt 71 then (37, ⟨#[]⟩, 0)
  else if decide (p = 109) && letter kind c ct mt then (29, ⟨#[]⟩, c % 256)
  else if decide (p = 39) && letter kind c ct mt then (30, ⟨#[]⟩, c % 256)
  else if decide (p = 120) && ctrlOf kind c mt 88 then (31, ⟨#[]⟩, 0)
  else if decide (p = 120) && (bare kind ct mt && decide (c = 117)) then (32, ⟨#[]⟩, 0)
  else if decide (p = 120) && (bare kind ct mt && decide (c = 114)) then (33, ⟨#[]⟩, 0)
  else (40, ⟨#[]⟩, 0)

theorem second_of (m : Nat) (p kind c : Int) (ct mt sh : Bool) (tx : ByteArray) (hp : ¬ p = 113) : bind_second.f (m + 20) p kind c ct mt sh tx = some ((snd p kind c ct mt).1, 1, (snd p kind c ct mt).2.1, (snd p kind c ct mt).2.2) := by
  have e1 : bind_second.f (m + 20) p kind c ct mt sh tx = bind_second.j0 (m + 20) p (decide (kind = 2) && !mt) kind c ct mt sh tx 40 1 ⟨#[]⟩ 0 := by
    unfold bind_second.f; by_cases h : kind = 2 <;> simp [h]
  have e2 : ∀ x, bind_second.j0 (m + 20) p x kind c ct mt sh tx 40 1 ⟨#[]⟩ 0 = bind_second.j1 (m + 19) p x (bare kind ct mt) kind c ct mt sh tx 40 1 ⟨#[]⟩ 0 := by
    intro x; simp only [bind_second.j0, bare]; by_cases h : kind = 1 <;> cases ct <;> simp [h]
  have e3 : ∀ x y, bind_second.j1 (m + 19) p x y kind c ct mt sh tx 40 1 ⟨#[]⟩ 0 = bind_second.j2 (m + 18) p x y (y && (decide (c = 64) || (decide (97 ≤ c) && decide (c ≤ 122)))) kind c ct mt sh tx 40 1 ⟨#[]⟩ 0 := by
    intro x y; simp only [bind_second.j1]; cases y
    · simp
    · by_cases a : c = 64
      · simp [a]
      · by_cases b : 97 ≤ c
        · simp [a, b]
        · simp [a, b]
  have e4 : ∀ x y z, bind_second.j2 (m + 18) p x y z kind c ct mt sh tx 40 1 ⟨#[]⟩ 0 = bind_second.j3 (m + 17) p x y z (x && decide (c = 71)) kind c ct mt sh tx 40 1 ⟨#[]⟩ 0 := by
    intro x y z; simp only [bind_second.j2]; rw [if_neg hp]; cases x <;> simp <;> rfl
  have e5 : ∀ x y z, bind_second.j3 (m + 17) p x y z false kind c ct mt sh tx 40 1 ⟨#[]⟩ 0 = bind_second.j4 (m + 16) p x y z (decide (p = 109) && z) kind c ct mt sh tx 40 1 ⟨#[]⟩ 0 := by
    intro x y z; simp only [bind_second.j3]; by_cases h : p = 109 <;> simp [h]
  have e6 : ∀ x y z, bind_second.j4 (m + 16) p x y z false kind c ct mt sh tx 40 1 ⟨#[]⟩ 0 = bind_second.j5 (m + 15) p x y (decide (p = 39) && z) kind c ct mt sh tx 40 1 ⟨#[]⟩ 0 := by
    intro x y z; simp only [bind_second.j4]; by_cases h : p = 39 <;> simp [h]
  have e7 : ∀ x y, bind_second.j5 (m + 15) p x y false kind c ct mt sh tx 40 1 ⟨#[]⟩ 0 = bind_second.j6 (m + 14) p y (decide (p = 120) && (x && decide (c = 88))) kind c ct mt sh tx 40 1 ⟨#[]⟩ 0 := by
    intro x y; simp only [bind_second.j5]; by_cases h : p = 120 <;> cases x <;> simp [h] <;> rfl
  have e8 : ∀ y, bind_second.j6 (m + 14) p y false kind c ct mt sh tx 40 1 ⟨#[]⟩ 0 = bind_second.j7 (m + 13) p y (decide (p = 120) && (y && decide (c = 117))) kind c ct mt sh tx 40 1 ⟨#[]⟩ 0 := by
    intro y; simp only [bind_second.j6]; by_cases h : p = 120 <;> cases y <;> simp [h] <;> rfl
  have e9 : ∀ y, bind_second.j7 (m + 13) p y false kind c ct mt sh tx 40 1 ⟨#[]⟩ 0 = if decide (p = 120) && (y && decide (c = 114)) then some (33, 1, ⟨#[]⟩, 0) else some (40, 1, ⟨#[]⟩, 0) := by
    intro y; simp only [bind_second.j7]; by_cases h : p = 120 <;> cases y <;> simp [h]
  rw [e1, e2, e3, e4]
  unfold snd
  have hx : ((decide (kind = 2) && !mt) && decide (c = 71)) = ctrlOf kind c mt 71 := by unfold ctrlOf; rw [Bool.and_assoc]
  have hx2 : ((decide (kind = 2) && !mt) && decide (c = 88)) = ctrlOf kind c mt 88 := by unfold ctrlOf; rw [Bool.and_assoc]
  have hl : (bare kind ct mt && (decide (c = 64) || (decide (97 ≤ c) && decide (c ≤ 122)))) = letter kind c ct mt := rfl
  rw [hx, hl]
  cases ctrlOf kind c mt 71 with
  | true => rfl
  | false =>
    rw [e5]
    cases (decide (p = 109) && letter kind c ct mt) with
    | true => rfl
    | false =>
      rw [e6]
      cases (decide (p = 39) && letter kind c ct mt) with
      | true => rfl
      | false =>
        rw [e7, hx2]
        cases (decide (p = 120) && ctrlOf kind c mt 88) with
        | true => rfl
        | false =>
          rw [e8]
          cases (decide (p = 120) && (bare kind ct mt && decide (c = 117))) with
          | true => rfl
          | false =>
            rw [e9]
            cases (decide (p = 120) && (bare kind ct mt && decide (c = 114))) <;> rfl


def isP (p : Int) : Prop := p = 0 ∨ p = 113 ∨ p = 120 ∨ p = 109 ∨ p = 39
def metaOf (kind c : Int) (ct mt : Bool) (x : Int) : Bool := decide (kind = 1) && (mt && (!ct && decide (c = x)))
def pfx (kind c : Int) (ct mt : Bool) : Int :=
  if ctrlOf kind c mt 81 then 113 else if ctrlOf kind c mt 88 then 120 else if metaOf kind c ct mt 109 then 109 else if metaOf kind c ct mt 39 then 39 else 0
theorem pfx_isP (kind c : Int) (ct mt : Bool) : isP (pfx kind c ct mt) := by
  unfold pfx isP; repeat' split
  all_goals simp
theorem prefix_of (m : Nat) (kind c : Int) (ct mt sh : Bool) (tx : ByteArray) : bind_prefixOf.f (m + 5) kind c ct mt sh tx = some (pfx kind c ct mt) := by
  have e1 : bind_prefixOf.f (m + 5) kind c ct mt sh tx = bind_prefixOf.j0 (m + 5) (ctrlOf kind c mt 81) kind c ct mt sh tx := by
    unfold bind_prefixOf.f ctrlOf; by_cases h : kind = 2 <;> cases mt <;> simp [h] <;> rfl
  have e2 : bind_prefixOf.j0 (m + 5) false kind c ct mt sh tx = bind_prefixOf.j1 (m + 4) (ctrlOf kind c mt 88) kind c ct mt sh tx := by
    simp only [bind_prefixOf.j0, ctrlOf]; by_cases h : kind = 2 <;> cases mt <;> simp [h] <;> rfl
  have e3 : bind_prefixOf.j1 (m + 4) false kind c ct mt sh tx = bind_prefixOf.j2 (m + 3) (metaOf kind c ct mt 109) kind c ct mt sh tx := by
    simp only [bind_prefixOf.j1, metaOf]; by_cases h : kind = 1 <;> cases mt <;> cases ct <;> simp [h] <;> rfl
  have e4 : bind_prefixOf.j2 (m + 3) false kind c ct mt sh tx = if metaOf kind c ct mt 39 then some 39 else some 0 := by
    simp only [bind_prefixOf.j2, metaOf]; by_cases h : kind = 1 <;> cases mt <;> cases ct <;> simp [h]
  rw [e1]; unfold pfx
  cases ctrlOf kind c mt 81 with
  | true => rfl
  | false =>
    rw [e2]
    cases ctrlOf kind c mt 88 with
    | true => rfl
    | false =>
      rw [e3]
      cases metaOf kind c ct mt 109 with
      | true => rfl
      | false => rw [e4]; cases metaOf kind c ct mt 39 <;> rfl
/-! One call of Key. -/
def isDig (p : Int) (cs : Bool) (kind c : Int) (ct mt : Bool) : Bool := decide (p = 0) && (decide (kind = 1) && (!ct && (decide (48 ≤ c) && (decide (c ≤ 57) && (mt || cs)))))
def cnt (cs : Bool) (cn : Int) : Int := if cs then mx cn 1 else 1
def cmdS (p kind c : Int) (ct mt : Bool) (tx : ByteArray) : Int × ByteArray × Int := if p = 0 then sgl kind c ct mt tx else if p = 113 then quo kind c ct mt tx else snd p kind c ct mt
def dig (cn c : Int) : Int := mn (cn * 10 + (c - 48)) 1000
/-- made, the command, what waits then. -/
def keyS (p : Int) (cs : Bool) (cn : Int) (kind c : Int) (ct mt : Bool) (tx : ByteArray) : (Int × Int × ByteArray × Int × Bool) × (Int × Bool × Int) :=
  if isDig p cs kind c ct mt then ((0, 0, ⟨#[]⟩, 0, false), (p, true, dig cn c))
  else if p = 0 ∧ pfx kind c ct mt ≠ 0 then ((0, 0, ⟨#[]⟩, 0, false), (pfx kind c ct mt, cs, cn))
  else (((cmdS p kind c ct mt tx).1, (if (cmdS p kind c ct mt tx).1 = 37 then 1 else cnt cs cn), (cmdS p kind c ct mt tx).2.1, (cmdS p kind c ct mt tx).2.2, true), (0, false, 0))

theorem digit_of (p : Int) (cs : Bool) (cn kind c : Int) (ct mt sh : Bool) (tx : ByteArray) : bind_Binder_digit.f p cs cn kind c ct mt sh tx = some (isDig p cs kind c ct mt, p, cs, cn) := by
  unfold bind_Binder_digit.f isDig
  by_cases h : p = 0 <;> by_cases h1 : kind = 1 <;> cases ct <;> simp [h, h1]
  by_cases a : 48 ≤ c
  · by_cases b : c ≤ 57
    · cases mt <;> simp [a, b]
    · simp [a, b]
  · simp [a]
theorem count_of (p : Int) (cs : Bool) (cn : Int) : bind_Binder_Count.f p cs cn = some (cnt cs cn, cs, p, cs, cn) := by
  unfold bind_Binder_Count.f cnt; cases cs <;> rfl
theorem isDig_char {p : Int} {cs : Bool} {kind c : Int} {ct mt : Bool} (h : isDig p cs kind c ct mt = true) : p = 0 ∧ 48 ≤ c ∧ c ≤ 57 := by
  unfold isDig at h
  simp only [Bool.and_eq_true, decide_eq_true_eq] at h
  exact ⟨h.1, h.2.2.2.1, h.2.2.2.2.1⟩

theorem key_of (m : Nat) (p : Int) (cs : Bool) (cn kind c : Int) (ct mt sh : Bool) (tx : ByteArray) (h0 : 0 ≤ cn) (h1 : cn ≤ 1000) :
    bind_Binder_Key.f (m + 40) p cs cn kind c ct mt sh tx = some (let r := keyS p cs cn kind c ct mt tx; (r.1.1, r.1.2.1, r.1.2.2.1, r.1.2.2.2.1, r.1.2.2.2.2, r.2.1, r.2.2.1, r.2.2.2)) := by
  unfold bind_Binder_Key.f keyS
  rw [digit_of]
  simp only [Option.bind_some]
  cases hd : isDig p cs kind c ct mt with
  | true =>
    obtain ⟨rfl, ha, hb⟩ := isDig_char hd
    simp only [if_true, dig]
    rw [wrap32_id (by omega) (by omega), wrap64_id (x := c - 48) (by omega) (by omega), wrap64_id (x := cn * 10) (by omega) (by omega), wrap64_id (by omega) (by omega)]
  | false =>
    simp only [Bool.false_eq_true, if_false]
    by_cases hp : p = 0
    · subst hp
      rw [if_pos rfl, prefix_of (m + 35)]
      simp only [Option.bind_some]
      by_cases hq : pfx kind c ct mt = 0
      · rw [if_pos hq, if_neg (by simp [hq]), single_of]
        simp only [Option.bind_some, bind_Binder_Key.fin, count_of, cmdS, if_true]
        split <;> rfl
      · rw [if_neg hq]; simp [hq]
    · rw [if_neg hp, if_neg (by simp [hp]), single_of]
      simp only [Option.bind_some]
      by_cases h3 : p = 113
      · subst h3
        have hs : bind_second.f (m + 40) 113 kind c ct mt sh tx = some ((quo kind c ct mt tx).1, 1, (quo kind c ct mt tx).2.1, (quo kind c ct mt tx).2.2) := by
          have hq := quoted_of (m + 34) kind c ct mt sh tx
          have e1 : ∃ x, bind_second.f (m + 40) 113 kind c ct mt sh tx = bind_second.j0 (m + 40) 113 x kind c ct mt sh tx 40 1 ⟨#[]⟩ 0 := by
            unfold bind_second.f; by_cases h : kind = 2
            · exact ⟨_, if_pos h⟩
            · exact ⟨_, if_neg h⟩
          obtain ⟨x, e1⟩ := e1
          have e2 : ∃ y, bind_second.j0 (m + 40) 113 x kind c ct mt sh tx 40 1 ⟨#[]⟩ 0 = bind_second.j1 (m + 39) 113 x y kind c ct mt sh tx 40 1 ⟨#[]⟩ 0 := by
            simp only [bind_second.j0]; by_cases h : kind = 1
            · rw [if_pos h]; cases ct
              · exact ⟨_, if_neg (by decide)⟩
              · exact ⟨_, if_pos rfl⟩
            · exact ⟨_, if_neg h⟩
          obtain ⟨y, e2⟩ := e2
          have e3 : ∃ z, bind_second.j1 (m + 39) 113 x y kind c ct mt sh tx 40 1 ⟨#[]⟩ 0 = bind_second.j2 (m + 38) 113 x y z kind c ct mt sh tx 40 1 ⟨#[]⟩ 0 := by
            simp only [bind_second.j1]; cases y
            · exact ⟨_, if_neg (by decide)⟩
            · by_cases a : c = 64
              · exact ⟨_, by rw [if_pos rfl, if_pos a]⟩
              · by_cases b : c ≥ 97
                · exact ⟨_, by rw [if_pos rfl, if_neg a, if_pos b]⟩
                · exact ⟨_, by rw [if_pos rfl, if_neg a, if_neg b]⟩
          obtain ⟨z, e3⟩ := e3
          rw [e1, e2, e3]
          simp only [bind_second.j2, if_true]
          exact hq
        have hcmd : cmdS 113 kind c ct mt tx = quo kind c ct mt tx := by unfold cmdS; rw [if_neg (show ¬ (113 : Int) = 0 by decide), if_pos rfl]
        rw [hs, hcmd]
        simp only [Option.bind_some, bind_Binder_Key.fin, count_of]
        split <;> rfl
      · have hcmd : cmdS p kind c ct mt tx = snd p kind c ct mt := by unfold cmdS; rw [if_neg hp, if_neg h3]
        rw [second_of (m + 20) p kind c ct mt sh tx h3, hcmd]
        simp only [Option.bind_some, bind_Binder_Key.fin, count_of]
        split <;> rfl

/-- What waits stays within its bounds. -/
theorem keyS_isP {p : Int} {cs : Bool} {cn kind c : Int} {ct mt : Bool} {tx : ByteArray} (hP : isP p) (h0 : 0 ≤ cn) (h1 : cn ≤ 1000) :
    isP (keyS p cs cn kind c ct mt tx).2.1 ∧ 0 ≤ (keyS p cs cn kind c ct mt tx).2.2.2 ∧ (keyS p cs cn kind c ct mt tx).2.2.2 ≤ 1000 := by
  unfold keyS
  split
  · rename_i hd
    obtain ⟨-, ha, hb⟩ := isDig_char hd
    refine ⟨hP, ?_, ?_⟩ <;> simp only [dig, mn] <;> split <;> omega
  · split
    · exact ⟨pfx_isP _ _ _ _, h0, h1⟩
    · exact ⟨.inl rfl, by simp, by simp⟩

end Go.Proofs.Ytgkaiagoogjibaa.Bk
