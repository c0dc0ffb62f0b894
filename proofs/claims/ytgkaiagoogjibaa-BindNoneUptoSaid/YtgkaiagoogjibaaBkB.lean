/- The table of single keys: the program's and the reference's answer, in one closed form. No condition. -/
import Derived.Test.YtgkaiagoogjibaaBkA
namespace Go.Proofs.Ytgkaiagoogjibaa.Bk
open Go Go.RowKit Go.Proofs.Ytgkaiagoogjibaa.PBind Go.Proofs.YtgkaiagoogjibaaW.PrintWords Go.Proofs.YtgkaiagoogjibaaW.PrintLast Go.Proofs.YtgkaiagoogjibaaW.PrintMore

/-- A list of letters with their commands, looked up from the front. -/
def look : List (Int × Int) → Int → Int
  | [], _ => 40
  | (a, b) :: l, c => if a = c then b else look l c

theorem in_of (rows : List S78) (c : Int) (hr : rows.length < 1000) : ∀ (n : Nat) (m : Nat) (i : Int), 0 ≤ i → i + n = rows.length → n < m →
    bind_in.l0 m c rows (rows.length : Int) i = some (look ((rows.drop i.toNat).map fun r => (r.f0, r.f1)) c) := by
  intro n
  induction n with
  | zero =>
    intro m i h0 h1 hm
    obtain ⟨m, rfl⟩ : ∃ q, m = q + 1 := ⟨m - 1, by omega⟩
    simp only [bind_in.l0]
    rw [if_neg (by omega), List.drop_of_length_le (by omega)]
    rfl
  | succ n ih =>
    intro m i h0 h1 hm
    obtain ⟨m, rfl⟩ : ∃ q, m = q + 1 := ⟨m - 1, by omega⟩
    have hlt : i.toNat < rows.length := by omega
    have hd : rows.drop i.toNat = rows[i.toNat] :: rows.drop (i.toNat + 1) := List.drop_eq_getElem_cons hlt
    have hrd : rd_T78 rows i = rows[i.toNat] := by unfold rd_T78; rw [List.getD_eq_getElem?_getD, List.getElem?_eq_getElem hlt]; rfl
    simp only [bind_in.l0]
    rw [if_pos (by omega), if_pos h0, if_pos (by omega), hrd, hd, List.map_cons]
    by_cases e : rows[i.toNat].f0 = c
    · rw [if_pos e]
      simp [look, e]
    · rw [if_neg e, wrap64_id (by omega) (by omega), ih m (i + 1) (by omega) (by omega) (by omega)]
      simp only [look, if_neg e]
      rw [show (i + 1).toNat = i.toNat + 1 by omega]

def ctlL : List (Int × Int) := [(65, 8), (69, 9), (66, 4), (70, 5), (80, 10), (78, 11), (68, 14), (72, 15), (63, 15), (71, 37), (74, 2), (77, 3), (75, 18), (85, 19), (76, 38), (82, 36), (84, 24), (87, 20), (89, 22), (95, 32), (94, 33), (64, 29), (73, 1)]
def mtaL : List (Int × Int) := [(98, 6), (102, 7), (100, 16), (60, 12), (62, 13), (119, 21), (121, 23), (116, 25), (117, 26), (108, 27), (99, 28), (112, 34), (110, 35)]
def ctl (c : Int) : Int := look ctlL c
def mta (c : Int) : Int := look mtaL c

theorem in_controls (m : Nat) (c : Int) : (bind_controls.f.bind fun t => bind_in.f (m + 30) t c) = some (ctl c) := by
  unfold bind_controls.f bind_in.f
  simp only [Option.bind_some]
  rw [in_of _ c (by decide) 23 (m + 30) 0 (by decide) (by rfl) (by omega)]
  rfl
theorem in_metas (m : Nat) (c : Int) : (bind_metas.f.bind fun t => bind_in.f (m + 30) t c) = some (mta c) := by
  unfold bind_metas.f bind_in.f
  simp only [Option.bind_some]
  rw [in_of _ c (by decide) 13 (m + 30) 0 (by decide) (by rfl) (by omega)]
  rfl

def ins (s : ByteArray) : Int × ByteArray × Int := if s.toList = ([] : List UInt8) then (40, ⟨#[]⟩, 0) else (1, s, 0)
theorem inserts_of (s : ByteArray) : bind_inserts.f s = some ((ins s).1, 1, (ins s).2.1, (ins s).2.2) := by unfold bind_inserts.f ins; split <;> rfl
/-- Of a control key without Meta: the command, its text, its mark. -/
def ctlS (c : Int) : Int × ByteArray × Int := (ctl c, if ctl c = 1 then ⟨#[9]⟩ else ⟨#[]⟩, if ctl c = 29 then 64 else 0)

/-- Of a named key; far: with Ctrl or Meta. -/
def nmd (kind : Int) (far : Bool) : Int := look [(8, if far then 6 else 4), (7, if far then 7 else 5), (5, if far then 34 else 10), (6, if far then 35 else 11), (9, if far then 12 else 8), (10, if far then 13 else 9), (12, if far then 16 else 14), (13, if far then 40 else 34), (14, if far then 40 else 35)] kind

theorem named_of (kind c : Int) (ct mt sh : Bool) (tx : ByteArray) : bind_named.f kind c ct mt sh tx = some (nmd kind (ct || mt)) := by
  unfold bind_named.f nmd
  simp only [look]
  by_cases h8 : kind = 8
  · subst h8; cases ct <;> cases mt <;> rfl
  rw [if_neg h8, if_neg (Ne.symm h8)]
  by_cases h7 : kind = 7
  · subst h7; cases ct <;> cases mt <;> rfl
  rw [if_neg h7, if_neg (Ne.symm h7)]
  by_cases h5 : kind = 5
  · subst h5; cases ct <;> cases mt <;> rfl
  rw [if_neg h5, if_neg (Ne.symm h5)]
  by_cases h6 : kind = 6
  · subst h6; cases ct <;> cases mt <;> rfl
  rw [if_neg h6, if_neg (Ne.symm h6)]
  by_cases h9 : kind = 9
  · subst h9; cases ct <;> cases mt <;> rfl
  rw [if_neg h9, if_neg (Ne.symm h9)]
  by_cases h10 : kind = 10
  · subst h10; cases ct <;> cases mt <;> rfl
  rw [if_neg h10, if_neg (Ne.symm h10)]
  by_cases h12 : kind = 12
  · subst h12; cases ct <;> cases mt <;> rfl
  rw [if_neg h12, if_neg (Ne.symm h12)]
  by_cases h13 : kind = 13
  · subst h13; cases ct <;> cases mt <;> rfl
  rw [if_neg h13, if_neg (Ne.symm h13)]
  by_cases h14 : kind = 14
  · subst h14; cases ct <;> cases mt <;> rfl
  rw [if_neg h14, if_neg (Ne.symm h14)]
  cases ct <;> cases mt <;> rfl

/-- The table of single keys. -/
def sgl (kind c : Int) (ct mt : Bool) (tx : ByteArray) : Int × ByteArray × Int :=
  if kind = 1 then (if ct then (40, ⟨#[]⟩, 0) else if mt then (mta c, ⟨#[]⟩, 0) else ins (strOfNums (encL c)))
  else if kind = 4 then (if ct || mt then (40, ⟨#[]⟩, 0) else ins tx)
  else if kind = 2 then (if mt then (if c = 72 ∨ c = 63 then 17 else 40, ⟨#[]⟩, 0) else ctlS c)
  else if kind = 17 then (39, tx, 0) else (nmd kind (ct || mt), ⟨#[]⟩, 0)

theorem single_of (m : Nat) (kind c : Int) (ct mt sh : Bool) (tx : ByteArray) : bind_single.f (m + 40) kind c ct mt sh tx = some ((sgl kind c ct mt tx).1, 1, (sgl kind c ct mt tx).2.1, (sgl kind c ct mt tx).2.2) := by
  unfold bind_single.f sgl
  by_cases h1 : kind = 1
  · rw [if_pos h1, if_pos h1]
    cases ct with
    | true => simp only [if_true, bind_single.j0]; rfl
    | false =>
      simp only [Bool.false_eq_true, if_false, bind_single.j0]
      cases mt with
      | true =>
        have hm := in_metas (m + 9) c
        simp only [Bool.not_true, Bool.false_eq_true, if_false, if_true]
        unfold bind_metas.f at hm ⊢
        simp only [Option.bind_some] at hm ⊢
        rw [hm]; rfl
      | false =>
        simp only [Bool.not_false, if_true, unit_enc (m + 36), Option.bind_some, inserts_of]
        rfl
  · rw [if_neg h1, if_neg h1]
    by_cases h4 : kind = 4
    · rw [if_pos h4, if_pos h4]
      cases ct <;> cases mt <;> simp [inserts_of]
    · rw [if_neg h4, if_neg h4]
      by_cases h2 : kind = 2
      · rw [if_pos h2, if_pos h2]
        cases mt with
        | true =>
          simp only [if_true]
          by_cases a : c = 72
          · simp [a]
          · by_cases b : c = 63
            · simp [b]
            · simp [a, b]
        | false =>
          have hm := in_controls (m + 10) c
          unfold bind_controls.f at hm ⊢
          simp only [Bool.false_eq_true, if_false, Option.bind_some] at hm ⊢
          rw [hm]
          simp only [Option.bind_some, ctlS]
          by_cases a : ctl c = 29
          · simp [a]
          · by_cases b : ctl c = 1
            · simp [b]
            · simp [a, b]
      · rw [if_neg h2, if_neg h2]
        by_cases h17 : kind = 17
        · rw [if_pos h17, if_pos h17]
        · rw [if_neg h17, if_neg h17, named_of]; rfl

end Go.Proofs.Ytgkaiagoogjibaa.Bk
