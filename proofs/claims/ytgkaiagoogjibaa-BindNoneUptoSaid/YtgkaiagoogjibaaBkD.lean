/- Commands of any keys: the program's and the reference's list, in one closed form; the examples; two equal lists are told equal. -/
import Derived.Test.YtgkaiagoogjibaaBkC
import Derived.Test.YtgkaiagoogjibaaPBindx0
import Derived.Test.YtgkaiagoogjibaaPBindx10
import Derived.Test.YtgkaiagoogjibaaPBindx9
namespace Go.Proofs.Ytgkaiagoogjibaa.Bk
open Go Go.RowKit Go.Proofs.Ytgkaiagoogjibaa.PBind Go.Proofs.YtgkaiagoogjibaaW.PrintWords Go.Proofs.YtgkaiagoogjibaaW.PrintLast Go.Proofs.YtgkaiagoogjibaaW.PrintMore

abbrev St := Int × Bool × Int
def keyOf (s : St) (k : S25) : (Int × Int × ByteArray × Int × Bool) × St := keyS s.1 s.2.1 s.2.2 k.f0 k.f1 k.f2 k.f3 k.f5
def cmdOf (r : Int × Int × ByteArray × Int × Bool) : List S36 := if r.2.2.2.2 = true then [⟨r.1, r.2.1, r.2.2.1, r.2.2.2.1⟩] else []
/-- The commands of keys, one behind the other. -/
def cmds : St → List S25 → List S36
  | _, [] => []
  | s, k :: l => cmdOf (keyOf s k).1 ++ cmds (keyOf s k).2 l
def okS (s : St) : Prop := isP s.1 ∧ 0 ≤ s.2.2 ∧ s.2.2 ≤ 1000
theorem okS_key {s : St} (h : okS s) (k : S25) : okS (keyOf s k).2 := keyS_isP h.1 h.2.1 h.2.2
theorem cmdOf_len (r : Int × Int × ByteArray × Int × Bool) : (cmdOf r).length ≤ 1 := by unfold cmdOf; split <;> simp

theorem commands_step (k : Nat) (out : List S36) (l : List S25) (n i p : Int) (cs : Bool) (cn : Int) : bind_Commands.l0 (k + 1) out l n i p cs cn =
    if i < n then (if 0 ≤ i then (if i < (l.length : Int) then ((bind_Binder_Key.f k p cs cn ((rd_T25 l i).f0) ((rd_T25 l i).f1) ((rd_T25 l i).f2) ((rd_T25 l i).f3) ((rd_T25 l i).f4) ((rd_T25 l i).f5)).bind fun b => (if b.2.2.2.2.1 = true then (if out.length < 3518437208883 then (bind_Commands.l0 k (out ++ [(⟨b.1, b.2.1, b.2.2.1, b.2.2.2.1⟩ : S36)]) l n (wrap64 (i + 1)) b.2.2.2.2.2.1 b.2.2.2.2.2.2.1 b.2.2.2.2.2.2.2) else none) else (bind_Commands.l0 k out l n (wrap64 (i + 1)) b.2.2.2.2.2.1 b.2.2.2.2.2.2.1 b.2.2.2.2.2.2.2))) else none) else none) else some out := by
  rw [bind_Commands.l0]
theorem commands_of (l : List S25) (hl : l.length < 1000000000000) : ∀ (n : Nat) (m : Nat) (i : Int) (out : List S36) (s : St), okS s → 0 ≤ i → i + n = l.length → out.length ≤ i → n + 40 < m →
    bind_Commands.l0 m out l (l.length : Int) i s.1 s.2.1 s.2.2 = some (out ++ cmds s (l.drop i.toNat)) := by
  intro n
  induction n with
  | zero =>
    intro m i out s hs h0 h1 ho hm
    obtain ⟨m, rfl⟩ : ∃ q, m = q + 1 := ⟨m - 1, by omega⟩
    simp only [bind_Commands.l0]
    rw [if_neg (by omega), List.drop_of_length_le (by omega)]
    simp [cmds]
  | succ n ih =>
    intro m i out s hs h0 h1 ho hm
    obtain ⟨m, rfl⟩ : ∃ q, m = q + 41 := ⟨m - 41, by omega⟩
    have hlt : i.toNat < l.length := by omega
    have hd : l.drop i.toNat = l[i.toNat] :: l.drop (i.toNat + 1) := List.drop_eq_getElem_cons hlt
    have hrd : rd_T25 l i = l[i.toNat] := by unfold rd_T25; rw [List.getD_eq_getElem?_getD, List.getElem?_eq_getElem hlt]; rfl
    have hk := key_of m s.1 s.2.1 s.2.2 l[i.toNat].f0 l[i.toNat].f1 l[i.toNat].f2 l[i.toNat].f3 l[i.toNat].f4 l[i.toNat].f5 hs.2.1 hs.2.2
    rw [commands_step (m + 40), if_pos (by omega), if_pos h0, if_pos (by omega), hrd, hk, hd]
    simp only [Option.bind_some, cmds]
    have hok := okS_key hs l[i.toNat]
    have hw : wrap64 (i + 1) = i + 1 := wrap64_id (by omega) (by omega)
    have ht : (i + 1).toNat = i.toNat + 1 := by omega
    have e : keyS s.1 s.2.1 s.2.2 l[i.toNat].f0 l[i.toNat].f1 l[i.toNat].f2 l[i.toNat].f3 l[i.toNat].f5 = keyOf s l[i.toNat] := rfl
    rw [e, hw]
    by_cases hb : (keyOf s l[i.toNat]).1.2.2.2.2 = true
    · rw [if_pos hb, if_pos (by omega), ih (m + 40) (i + 1) _ (keyOf s l[i.toNat]).2 hok (by omega) (by omega) (by simp; omega) (by omega), ht]
      simp [cmdOf, hb]
    · rw [if_neg hb, ih (m + 40) (i + 1) _ (keyOf s l[i.toNat]).2 hok (by omega) (by omega) (by omega) (by omega), ht]
      simp [cmdOf, hb]

def st0 : St := (0, false, 0)
theorem st0_ok : okS st0 := ⟨.inl rfl, by decide, by decide⟩
theorem commands (l : List S25) (hl : l.length < 1000000000000) (m : Nat) : bind_Commands.f (m + l.length + 41) l = some (cmds st0 l) := by
  unfold bind_Commands.f bind_New.f
  simp only [Option.bind_some]
  exact commands_of l hl l.length (m + l.length + 41) 0 [] st0 st0_ok (by decide) (by omega) (by simp) (by omega)
theorem eqb36_self (a b d : Int) (s : ByteArray) : eqb36 a a b b s s d d = true := by unfold eqb36; simp
theorem same_of (l : List S36) (hl : l.length < 1000000000000) : ∀ (n : Nat) (m : Nat) (i : Int), 0 ≤ i → i + n = l.length → n < m → bodkinlaw19_sameCommands.l0 m l l (l.length : Int) i = some true := by
  intro n
  induction n with
  | zero =>
    intro m i h0 h1 hm
    obtain ⟨m, rfl⟩ : ∃ q, m = q + 1 := ⟨m - 1, by omega⟩
    simp only [bodkinlaw19_sameCommands.l0]
    rw [if_neg (by omega)]
  | succ n ih =>
    intro m i h0 h1 hm
    obtain ⟨m, rfl⟩ : ∃ q, m = q + 1 := ⟨m - 1, by omega⟩
    simp only [bodkinlaw19_sameCommands.l0]
    rw [if_pos (by omega), if_pos h0, if_pos (by omega), if_pos (by omega), eqb36_self, if_pos rfl, wrap64_id (by omega) (by omega)]
    exact ih m (i + 1) (by omega) (by omega) (by omega)
theorem same (l : List S36) (hl : l.length < 1000000000000) (m : Nat) : bodkinlaw19_sameCommands.f (m + l.length + 1) l l = some true := by
  unfold bodkinlaw19_sameCommands.f
  rw [if_pos rfl]
  exact same_of l hl l.length _ 0 (by decide) (by omega) (by omega)
theorem cmds_len (l : List S25) : ∀ s, (cmds s l).length ≤ l.length := by
  induction l with
  | nil => intro s; simp [cmds]
  | cons k l ih =>
    intro s
    have := ih (keyOf s k).2
    have := cmdOf_len (keyOf s k).1
    simp only [cmds, List.length_append, List.length_cons]
    omega

def cA : S36 := ⟨5, 12, ⟨#[]⟩, 0⟩
def cB : S36 := ⟨1, 1, ⟨#[13]⟩, 0⟩
def cC : S36 := ⟨29, 1, ⟨#[]⟩, 97⟩
def exA : List S25 := [⟨1, 49, false, true, false, ⟨#[]⟩⟩, ⟨1, 50, false, false, false, ⟨#[]⟩⟩, ⟨2, 70, true, false, false, ⟨#[]⟩⟩]
def exB : List S25 := [⟨2, 81, true, false, false, ⟨#[]⟩⟩, ⟨2, 77, true, false, false, ⟨#[]⟩⟩, ⟨1, 109, false, true, false, ⟨#[]⟩⟩, ⟨1, 97, false, false, false, ⟨#[]⟩⟩]
theorem exA_of : cmds st0 exA = [cA] := by kernel_rfl
theorem exB_of : cmds st0 exB = [cB, cC] := by kernel_rfl
theorem callA (m : Nat) : bind_Commands.f (m + 100) exA = some [cA] := by rw [← exA_of]; exact commands exA (by decide) (m + 56)
theorem callB (m : Nat) : bind_Commands.f (m + 100) exB = some [cB, cC] := by rw [← exB_of]; exact commands exB (by decide) (m + 55)

theorem binds_of (q : Nat) (hA : bind_Commands.f (q + 1) exA = some [cA]) (hB : bind_Commands.f q exB = some [cB, cC]) : bodkinlaw19_binds.f (q + 1) = some true := by
  unfold bodkinlaw19_binds.f bodkinlaw19_char.f bodkinlaw19_ctrl.f
  simp only [Option.bind_some]
  unfold exA at hA
  rw [hA]
  simp only [Option.bind_some, List.length_cons, List.length_nil]
  have e0 : rd_T36 [cA] 0 = cA := rfl
  rw [if_pos (by decide), if_pos (by decide), e0]
  have e1 : eqb36 cA.f0 5 cA.f1 12 cA.f2 ⟨#[]⟩ cA.f3 0 = true := eqb36_self 5 12 0 ⟨#[]⟩
  rw [e1]
  simp only [bodkinlaw19_binds.j0, Bool.not_true, Bool.false_eq_true, if_false, bodkinlaw19_char.f, bodkinlaw19_ctrl.f, Option.bind_some]
  unfold exB at hB
  rw [hB]
  have e2 : rd_T36 [cB, cC] 0 = cB := rfl
  have e3 : rd_T36 [cB, cC] 1 = cC := rfl
  simp only [Option.bind_some, List.length_cons, List.length_nil, e2, e3]
  have e4 : eqb36 cB.f0 1 cB.f1 1 cB.f2 ⟨#[13]⟩ cB.f3 0 = true := eqb36_self 1 1 0 ⟨#[13]⟩
  have e5 : eqb36 cC.f0 29 cC.f1 1 cC.f2 ⟨#[]⟩ cC.f3 97 = true := eqb36_self 29 1 97 ⟨#[]⟩
  rw [if_pos (by decide), if_pos (by decide), e4, if_pos rfl, if_pos (by decide), e5]
theorem binds_true (m : Nat) : bodkinlaw19_binds.f (m + 100 + 1) = some true := binds_of (m + 100) (by have h := callA (m + 1); rwa [show m + 1 + 100 = m + 100 + 1 by omega] at h) (callB m)

end Go.Proofs.Ytgkaiagoogjibaa.Bk
