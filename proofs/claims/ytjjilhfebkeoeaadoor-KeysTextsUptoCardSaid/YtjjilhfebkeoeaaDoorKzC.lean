/- Every key read is written again (KeysBack): plain; its parts. -/
import Derived.Test.YtjjilhfebkeoeaaDoorKyP
namespace Go.Proofs.YtjjilhfebkeoeaaDoor.Ky
open Go.Lib (encodeRuneZ)
set_option linter.unusedVariables false
theorem encL_of {c : Int} {l : List Int} {m : List UInt8} (hv : (0 ≤ c ∧ c < 55296) ∨ (57343 < c ∧ c ≤ 1114111)) (hz : encodeRuneZ c = l) (hm : l.map (fun x => x.toNat.toUInt8) = m) : encL c = m := by
  unfold encL Go.Lib.encodeRune
  rw [if_pos (by unfold Go.Lib.validRune; rw [decide_eq_true_eq]; omega), hz, hm]
theorem u8_back {a : UInt8} {x : Int} (hx : x = a.toNat) : x.toNat.toUInt8 = a := by subst hx; simp
theorem enc1 (a : UInt8) (h : a.toNat < 128) : encL (a.toNat : Int) = [a] :=
  encL_of (by omega) (Go.Lib.encodeRuneZ_one (by omega) (by omega)) (by simp)
theorem enc2 (a b : UInt8) (h0 : 194 ≤ a.toNat) (h1 : a.toNat < 224) (h2 : 128 ≤ b.toNat) (h3 : b.toNat ≤ 191) : encL ((two a.toNat b.toNat : Nat) : Int) = [a, b] := by
  unfold two
  refine encL_of (by omega) (Go.Lib.encodeRuneZ_two (by omega) (by omega)) ?_
  simp only [List.map_cons, List.map_nil]
  rw [u8_back (a := a) (by omega), u8_back (a := b) (by omega)]
theorem enc3 (a b c : UInt8) (h0 : 224 ≤ a.toNat) (h1 : a.toNat < 240) (h2 : 128 ≤ b.toNat) (h3 : b.toNat ≤ 191) (h4 : a.toNat = 224 → 160 ≤ b.toNat) (h5 : a.toNat = 237 → b.toNat ≤ 159) (h6 : 128 ≤ c.toNat) (h7 : c.toNat ≤ 191) :
    encL ((thr a.toNat b.toNat c.toNat : Nat) : Int) = [a, b, c] := by
  unfold thr
  refine encL_of (by omega) (Go.Lib.encodeRuneZ_three (by omega)) ?_
  simp only [List.map_cons, List.map_nil]
  rw [u8_back (a := a) (by omega), u8_back (a := b) (by omega), u8_back (a := c) (by omega)]
theorem enc4 (a b c d : UInt8) (h0 : 240 ≤ a.toNat) (h1 : a.toNat ≤ 244) (h2 : 128 ≤ b.toNat) (h3 : b.toNat ≤ 191) (h4 : a.toNat = 240 → 144 ≤ b.toNat) (h5 : a.toNat = 244 → b.toNat ≤ 143) (h6 : 128 ≤ c.toNat) (h7 : c.toNat ≤ 191) (h8 : 128 ≤ d.toNat) (h9 : d.toNat ≤ 191) :
    encL ((fou a.toNat b.toNat c.toNat d.toNat : Nat) : Int) = [a, b, c, d] := by
  unfold fou
  refine encL_of (by omega) (Go.Lib.encodeRuneZ_four (by omega) (by omega)) ?_
  simp only [List.map_cons, List.map_nil]
  rw [u8_back (a := a) (by omega), u8_back (a := b) (by omega), u8_back (a := c) (by omega), u8_back (a := d) (by omega)]
theorem lead_2 {n : Nat} (h : (lead n).1 = 2) : 194 ≤ n ∧ n < 224 ∧ (lead n).2 = (128, 191) := by
  unfold lead at h ⊢
  repeat' split at h
  all_goals first | (simp at h; done) | (refine ⟨by omega, by omega, ?_⟩; repeat' split) <;> first | rfl | omega
theorem lead_3 {n : Nat} (h : (lead n).1 = 3) : 224 ≤ n ∧ n < 240 ∧ 128 ≤ (lead n).2.1 ∧ (lead n).2.2 ≤ 191 ∧ (n = 224 → (lead n).2.1 = 160) ∧ (n = 237 → (lead n).2.2 = 159) := by
  unfold lead at h ⊢
  repeat' split at h
  all_goals first | (simp at h; done) | (refine ⟨by omega, by omega, ?_, ?_, fun e => ?_, fun e => ?_⟩ <;> repeat' split) <;> first | rfl | omega | (simp; done)
theorem lead_4 {n : Nat} (h : (lead n).1 = 4) : 240 ≤ n ∧ n ≤ 244 ∧ 128 ≤ (lead n).2.1 ∧ (lead n).2.2 ≤ 191 ∧ (n = 240 → (lead n).2.1 = 144) ∧ (n = 244 → (lead n).2.2 = 143) := by
  unfold lead at h ⊢
  repeat' split at h
  all_goals first | (simp at h; done) | (refine ⟨by omega, by omega, ?_, ?_, fun e => ?_, fun e => ?_⟩ <;> repeat' split) <;> first | rfl | omega | (simp; done)
/-- UTF-8's round trip: the first unit, if it is a character, is written as it was read. -/
theorem enc_fst (a : UInt8) (r : List UInt8) (h : 0 ≤ (fst (a :: r)).1) : encL (fst (a :: r)).1 = (a :: r).take (fst (a :: r)).2 := by
  by_cases ha : a.toNat < 128
  · rw [fst_ascii r ha]; exact enc1 a ha
  rcases lead_cases a.toNat with h0 | h0 | h0 | h0
  · rw [fst_none r ha h0] at h; simp at h
  · match r with
    | [] => rw [fst_s1 (.inl h0)] at h; simp at h
    | b :: r =>
      rw [fst_two b r h0] at h ⊢
      split at h
      · rename_i hs
        have h1 := lead_2 h0
        have h2 := (sec_iff a b).mp hs
        rw [h1.2.2] at h2
        rw [if_pos hs]
        exact enc2 a b h1.1 h1.2.1 h2.1 h2.2
      · simp at h
  · match r with
    | [] => rw [fst_s1 (.inr (.inl h0))] at h; simp at h
    | [b] => rw [fst_s2 b (.inl h0)] at h; simp at h
    | b :: c :: r =>
      rw [fst_thr b c r h0] at h ⊢
      split at h
      · rename_i hs
        have h1 := lead_3 h0
        have h2 := (sec_iff a b).mp hs.1
        have h3 := (cont_iff c).mp hs.2
        rw [if_pos hs]
        exact enc3 a b c h1.1 h1.2.1 (by omega) (by omega) (fun e => by have := h1.2.2.2.2.1 e; omega) (fun e => by have := h1.2.2.2.2.2 e; omega) h3.1 h3.2
      · simp at h
  · match r with
    | [] => rw [fst_s1 (.inr (.inr h0))] at h; simp at h
    | [b] => rw [fst_s2 b (.inr h0)] at h; simp at h
    | [b, c] => rw [fst_s3 b c h0] at h; simp at h
    | b :: c :: d :: r =>
      rw [fst_fou b c d r h0] at h ⊢
      split at h
      · rename_i hs
        have h1 := lead_4 h0
        have h2 := (sec_iff a b).mp hs.1
        have h3 := (cont_iff c).mp hs.2.1
        have h4 := (cont_iff d).mp hs.2.2
        rw [if_pos hs]
        exact enc4 a b c d h1.1 h1.2.1 (by omega) (by omega) (fun e => by have := h1.2.2.2.2.1 e; omega) (fun e => by have := h1.2.2.2.2.2 e; omega) h3.1 h3.2 h4.1 h4.2
      · simp at h
theorem lead0_1 {k : Key} (h : k.kind = 1) : lead0 k = encL k.char := by unfold lead0; rw [if_pos h]
theorem lead0_2 {k : Key} (h : k.kind = 2) : lead0 k = ctl k.char := by unfold lead0; rw [if_neg (by rw [h]; decide), if_pos h]
theorem lead0_4 {k : Key} (h : k.kind = 4 ∨ k.kind = 18) : lead0 k = k.text := by unfold lead0; rw [if_neg (by omega), if_neg (by omega), if_pos h]
theorem plain_back (a : UInt8) (r : List UInt8) (h : a.toNat ≠ 27) :
    lead0 (plain true (a :: r)).1 = (a :: r).take (plain true (a :: r)).2 ∧ ((plain true (a :: r)).1.kind = 1 ∨ (plain true (a :: r)).1.kind = 2 ∨ (plain true (a :: r)).1.kind = 4) ∧ (plain true (a :: r)).1.mt = false := by
  unfold plain
  simp only
  by_cases h1 : a.toNat = 127
  · rw [if_pos h1]
    refine ⟨?_, .inr (.inl rfl), rfl⟩
    have e : a = 127 := by apply UInt8.toNat_inj.mp; rw [h1]; rfl
    subst e; rw [lead0_2 rfl]; simp only [ctl]; rfl
  rw [if_neg h1]
  by_cases h2 : a.toNat < 32
  · rw [if_pos h2]
    refine ⟨?_, .inr (.inl rfl), rfl⟩
    rw [lead0_2 rfl]
    simp only [List.take_succ_cons, List.take_zero]
    unfold ctl
    rw [if_neg (by omega), if_pos (by omega)]
    have e : ((a.toNat : Int) + 64 - 64).toNat = a.toNat := by omega
    rw [e]; simp
  rw [if_neg h2, if_neg (by simp)]
  by_cases h3 : (fst (a :: r)).1 < 0
  · rw [if_pos h3]; exact ⟨lead0_4 (.inl rfl), .inr (.inr rfl), rfl⟩
  · rw [if_neg h3]; exact ⟨(lead0_1 rfl).trans (enc_fst a r (by omega)), .inl rfl, rfl⟩
/-- The kinds whose bytes are the very bytes that were read. -/
def bare (k : Key) : Prop := k.kind = 1 ∨ k.kind = 2 ∨ k.kind = 3 ∨ k.kind = 4 ∨ k.kind = 18
theorem form_mt {k : Key} (h : k.kind = 1 ∨ k.kind = 2 ∨ k.kind = 4) : form { k with mt := true } = 27 :: lead0 k := by
  unfold form
  rw [if_pos ⟨rfl, h⟩]
  congr 1
  unfold lead0
  rcases h with h | h | h <;> simp [h]
theorem form_no {k : Key} (h : k.mt = false) : form k = lead0 k := by
  unfold form
  rw [if_neg (by rw [h]; simp)]
theorem form_18 {k : Key} (h : k.kind = 18) : form k = k.text := by
  unfold form
  rw [if_neg (by rw [h]; simp)]
  unfold lead0; simp [h]
theorem form_unk (l : List UInt8) (n : Nat) (h : n ≤ l.length) : form (unknown (l.take n)).1 = l.take (unknown (l.take n)).2 := by
  rw [form_18 rfl]
  show l.take n = l.take (l.take n).length
  rw [List.length_take, Nat.min_eq_left h]
theorem form_withM (c : UInt8) (h : 32 ≤ c.toNat) (h2 : c.toNat < 127) : form (withM (c.toNat : Int)).1 = [27, c] := by
  show form ⟨1, (c.toNat : Int), false, true, false, []⟩ = _
  rw [show (⟨1, (c.toNat : Int), false, true, false, []⟩ : Key) = { (⟨1, (c.toNat : Int), false, false, false, []⟩ : Key) with mt := true } from rfl, form_mt (.inl rfl)]
  rw [lead0_1 rfl, enc1 c (by omega)]
end Go.Proofs.YtjjilhfebkeoeaaDoor.Ky
/- Every named key is written and read again (KeysBack): plain; finite. -/
namespace Go.Proofs.YtjjilhfebkeoeaaDoor.Ky
set_option linter.unusedVariables false
/-- Two digits at most. -/
def decD (n : Nat) : List UInt8 := if n < 10 then [UInt8.ofNat (48 + n)] else [UInt8.ofNat (48 + n / 10), UInt8.ofNat (48 + n % 10)]
theorem decD_eq {n : Nat} (h : n < 100) : Go.Lib.decDigits n = decD n := by
  unfold decD
  by_cases g : n < 10
  · rw [if_pos g, decDigits_one g]
  · rw [if_neg g, decDigits_two (by omega) h]
def letterD (k : Key) (b : Nat) : List UInt8 := if mnum k = 1 ∨ (k.kind = 15 ∧ mnum k = 2) then [27, 91, UInt8.ofNat b] else [27, 91, 49, 59] ++ decD (mnum k) ++ [UInt8.ofNat b]
def numberD (k : Key) (n : Nat) : List UInt8 := if mnum k = 1 then [27, 91] ++ decD n ++ [126] else [27, 91] ++ decD n ++ [59] ++ decD (mnum k) ++ [126]
def seqD (k : Key) : List UInt8 := match findL k with
  | some b => letterD k b
  | none => match findN k with
    | some n => numberD k n
    | none => []
theorem seqD_eq (k : Key) : seqL k = seqD k := by
  have hm := mnum_le k
  unfold seqL seqD
  cases h : findL k with
  | some b => simp only; unfold letterF letterD; rw [decD_eq (by omega)]
  | none =>
    simp only
    cases h2 : findN k with
    | none => rfl
    | some n =>
      have h3 := List.mem_of_find?_eq_some h2
      rw [List.mem_range'_1] at h3
      simp only; unfold numberF numberD; rw [decD_eq (by omega), decD_eq (n := mnum k) (by omega)]
def okK (k : Key) : Bool := decide (keysOf true (seqD k) = [k])
set_option maxRecDepth 100000 in
theorem fin_L : ((List.range' 65 26).all fun e => (List.range' 1 8).all fun m => decide ((lettered e).kind = 0) || okK (mods (lettered e) m)) = true := by decide +kernel
set_option maxRecDepth 100000 in
theorem fin_N : ((List.range' 1 24).all fun n => (List.range' 1 8).all fun m => decide ((numbered (n : Nat)).kind = 0) || okK (mods (numbered (n : Nat)) m)) = true := by decide +kernel
end Go.Proofs.YtjjilhfebkeoeaaDoor.Ky
/- Named keys and a paste are written and read again (KeysBack): plain. -/
namespace Go.Proofs.YtjjilhfebkeoeaaDoor.Ky
set_option linter.unusedVariables false
set_option linter.unusedSimpArgs false
theorem lettered_cases (e : Nat) : (lettered e).kind = 0 ∨ (5 ≤ (lettered e).kind ∧ (lettered e).kind ≤ 16 ∧ 65 ≤ e ∧ e < 91) := by
  unfold lettered named
  repeat' split
  all_goals first | (left; rfl) | (right; refine ⟨by simp, by simp, by omega, by omega⟩)
theorem numbered_cases (n : Nat) : (numbered (n : Nat)).kind = 0 ∨ (5 ≤ (numbered (n : Nat)).kind ∧ (numbered (n : Nat)).kind ≤ 16 ∧ 1 ≤ n ∧ n < 25) := by
  unfold numbered named
  repeat' split
  all_goals first | (left; rfl) | (right; refine ⟨by simp, by simp, by omega, by omega⟩)
theorem form_seq {k : Key} (h : 5 ≤ k.kind) (h2 : k.kind ≤ 16) : form k = seqD k := by
  rw [← seqD_eq]
  unfold form lead0
  rw [if_neg (by omega), if_neg (by omega), if_neg (by omega), if_neg (by omega), if_neg (by omega), if_neg (by omega)]
theorem back_L {e m : Nat} (h : (lettered e).kind ≠ 0) (h1 : 1 ≤ m) (h2 : m ≤ 8) : keysOf true (form (mods (lettered e) m)) = [mods (lettered e) m] := by
  rcases lettered_cases e with g | ⟨g1, g2, g3, g4⟩
  · exact absurd g h
  · have f := List.all_eq_true.mp (List.all_eq_true.mp fin_L e (by rw [List.mem_range'_1]; omega)) m (by rw [List.mem_range'_1]; omega)
    rw [Bool.or_eq_true, decide_eq_true_eq] at f
    rw [form_seq (k := mods (lettered e) m) g1 g2]
    exact of_decide_eq_true (f.resolve_left h)
theorem back_N {n m : Nat} (h : (numbered (n : Nat)).kind ≠ 0) (h1 : 1 ≤ m) (h2 : m ≤ 8) : keysOf true (form (mods (numbered (n : Nat)) m)) = [mods (numbered (n : Nat)) m] := by
  rcases numbered_cases n with g | ⟨g1, g2, g3, g4⟩
  · exact absurd g h
  · have f := List.all_eq_true.mp (List.all_eq_true.mp fin_N n (by rw [List.mem_range'_1]; omega)) m (by rw [List.mem_range'_1]; omega)
    rw [Bool.or_eq_true, decide_eq_true_eq] at f
    rw [form_seq (k := mods (numbered (n : Nat)) m) g1 g2]
    exact of_decide_eq_true (f.resolve_left h)
theorem idx_cons (b : UInt8) (l : List UInt8) : Go.Lib.index (b :: l) pend = if pend.isPrefixOf (b :: l) = true then 0 else if Go.Lib.index l pend = -1 then -1 else Go.Lib.index l pend + 1 := by
  conv => lhs; unfold Go.Lib.index
  simp only [beq_iff_eq]
theorem idx_ge (l : List UInt8) : Go.Lib.index l pend = -1 ∨ 0 ≤ Go.Lib.index l pend := by
  induction l with
  | nil => left; rfl
  | cons b l ih =>
    rw [idx_cons]
    split
    · right; omega
    · split
      · left; rfl
      · right; rcases ih with ih | ih
        · contradiction
        · omega
theorem idx_self (t : List UInt8) : Go.Lib.index (pend ++ t) pend = 0 := by
  show Go.Lib.index (27 :: ([91, 50, 48, 49, 126] ++ t)) pend = 0
  rw [idx_cons, if_pos (show pend.isPrefixOf (27 :: ([91, 50, 48, 49, 126] ++ t)) = true from List.isPrefixOf_iff_prefix.mpr ⟨t, rfl⟩)]
/-- Found: the text ahead, closed again, is found there. -/
theorem idx_found : ∀ (s : List UInt8), 0 ≤ Go.Lib.index s pend → (s.take (Go.Lib.index s pend).toNat ++ pend) <+: s ∧ Go.Lib.index (s.take (Go.Lib.index s pend).toNat ++ pend) pend = Go.Lib.index s pend
  | [], h => absurd h (by decide)
  | b :: l, h => by
    rw [idx_cons] at h ⊢
    by_cases hp : pend.isPrefixOf (b :: l) = true
    · rw [if_pos hp]
      refine ⟨List.isPrefixOf_iff_prefix.mp hp, ?_⟩
      have := idx_self []
      rw [List.append_nil] at this
      exact this
    · rw [if_neg hp] at h ⊢
      by_cases h1 : Go.Lib.index l pend = -1
      · rw [if_pos h1] at h; exact absurd h (by decide)
      · rw [if_neg h1] at h ⊢
        have h2 : 0 ≤ Go.Lib.index l pend := (idx_ge l).resolve_left h1
        obtain ⟨ih1, ih2⟩ := idx_found l h2
        have e : (Go.Lib.index l pend + 1).toNat = (Go.Lib.index l pend).toNat + 1 := by omega
        rw [e, List.take_succ_cons, List.cons_append]
        have hpre : (b :: (l.take (Go.Lib.index l pend).toNat ++ pend)) <+: b :: l := by
          obtain ⟨t, ht⟩ := ih1
          exact ⟨t, by rw [List.cons_append, ht]⟩
        refine ⟨hpre, ?_⟩
        rw [idx_cons, if_neg (fun g => hp (List.isPrefixOf_iff_prefix.mpr ((List.isPrefixOf_iff_prefix.mp g).trans hpre))), ih2, if_neg h1]
theorem no_lap {b : UInt8} {l : List UInt8} (h : pend.isPrefixOf (b :: (l ++ pend)) = true) : pend.isPrefixOf (b :: l) = true := by
  match l with
  | [] => simp [pend, List.isPrefixOf] at h
  | [x] => simp [pend, List.isPrefixOf] at h
  | [x, y] => simp [pend, List.isPrefixOf] at h
  | [x, y, z] => simp [pend, List.isPrefixOf] at h
  | [x, y, z, u] => simp [pend, List.isPrefixOf] at h
  | x :: y :: z :: u :: v :: r => simpa [pend, List.isPrefixOf] using h
/-- Not found: the whole text, closed, is found at its end. -/
theorem idx_none : ∀ (s : List UInt8), Go.Lib.index s pend = -1 → Go.Lib.index (s ++ pend) pend = s.length
  | [], _ => by have := idx_self []; rwa [List.append_nil] at this
  | b :: l, h => by
    rw [idx_cons] at h
    by_cases hp : pend.isPrefixOf (b :: l) = true
    · rw [if_pos hp] at h; exact absurd h (by decide)
    · rw [if_neg hp] at h
      have h1 : Go.Lib.index l pend = -1 := by
        by_cases g : Go.Lib.index l pend = -1
        · exact g
        · rw [if_neg g] at h
          rcases idx_ge l with k | k
          · exact k
          · omega
      have ih := idx_none l h1
      rw [List.cons_append, idx_cons, if_neg (fun g => hp (no_lap g)), ih, if_neg (by omega)]
      simp
end Go.Proofs.YtjjilhfebkeoeaaDoor.Ky
/- rd_back: every key that is read is written, and what is written is read as that key alone (KeysBack): plain. -/
namespace Go.Proofs.YtjjilhfebkeoeaaDoor.Ky
set_option linter.unusedVariables false
set_option linter.unusedSimpArgs false
theorem one_key {p : List UInt8} {k : Key} (hn : p ≠ []) (h : rd true p = (k, p.length)) : keysOf true p = [k] := by
  have hp : (rd true p).2 ≠ 0 := rd_pos p hn
  unfold keysOf
  rw [run_go hp, h]
  simp [run, runN]
theorem rd_pasted (t : List UInt8) (h : Go.Lib.index (t ++ pend) pend = t.length) : rd true (pbeg ++ t ++ pend) = (⟨17, 0, false, false, false, t⟩, (pbeg ++ t ++ pend).length) := by
  have h1 : scan (pbeg ++ t ++ pend) = 5 := by
    refine scan_at (by decide) (by decide) (fun j h2 h5 => ?_) (.inr (.inr ⟨126, rfl, rfl⟩))
    match j, h2, h5 with
    | 2, _, _ => exact ⟨50, rfl, rfl⟩
    | 3, _, _ => exact ⟨48, rfl, rfl⟩
    | 4, _, _ => exact ⟨48, rfl, rfl⟩
  have h2 : rd true (pbeg ++ t ++ pend) = csi true (pbeg ++ t ++ pend) := rfl
  have h3 : csi true (pbeg ++ t ++ pend) = meaning true (pbeg ++ t ++ pend) 5 := by
    unfold csi
    rw [h1, if_neg (by decide)]
    rfl
  have h4 : meaning true (pbeg ++ t ++ pend) 5 = paste true (pbeg ++ t ++ pend) 6 := rfl
  rw [h2, h3, h4]
  unfold paste
  have h5 : (pbeg ++ t ++ pend).drop 6 = t ++ pend := rfl
  rw [h5, h, if_pos (by omega)]
  simp [pbeg, pend]; omega
theorem form_17 (t : List UInt8) : form ⟨17, 0, false, false, false, t⟩ = pbeg ++ t ++ pend := by
  rw [form_no rfl]
  unfold lead0
  rw [if_neg (by simp), if_neg (by simp), if_neg (by simp), if_neg (by simp), if_pos rfl]
theorem back_17 (t : List UInt8) (h : Go.Lib.index (t ++ pend) pend = t.length) : keysOf true (form ⟨17, 0, false, false, false, t⟩) = [⟨17, 0, false, false, false, t⟩] := by
  rw [form_17]
  exact one_key (by simp [pbeg]) (rd_pasted t h)
/-- What is said of a reading: its bytes are the very bytes, or it is a named key or a paste that is read again. -/
def Bk (l : List UInt8) (x : Key × Nat) : Prop := form x.1 = l.take x.2 ∨ (keysOf true (form x.1) = [x.1] ∧ ¬ bare x.1)
theorem nums_m {a b : List UInt8} {t : Bool} {n m : Nat} (h : numsOf a b t = some (n, m)) : 1 ≤ m ∧ m ≤ 8 := by
  unfold numsOf at h
  split at h
  · split at h
    · split at h
      · rename_i g
        obtain ⟨x, -, hx⟩ := Option.map_eq_some_iff.mp h
        cases hx; exact g
      · cases h
    · cases h
  · split at h
    · cases h; omega
    · obtain ⟨x, -, hx⟩ := Option.map_eq_some_iff.mp h
      cases hx; omega
theorem bk_named {l : List UInt8} {k : Key} {n : Nat} (h : keysOf true (form k) = [k]) (h1 : 5 ≤ k.kind) (h2 : k.kind ≤ 17) : Bk l (k, n) := .inr ⟨h, by unfold bare; simp only; omega⟩
theorem bk_unk (l : List UInt8) (n : Nat) (h : n ≤ l.length) : Bk l (unknown (l.take n)) := .inl (form_unk l n h)
theorem bk_withM {c b : UInt8} (r : List UInt8) (h0 : c = 27) (hb : 32 ≤ b.toNat) (hb2 : b.toNat < 127) : Bk (c :: b :: r) (withM (b.toNat : Int)) := by
  subst h0; exact .inl (form_withM b hb hb2)
theorem bk_paste (l : List UInt8) (i : Nat) : Bk l (paste true l i) := by
  unfold paste
  split
  · rename_i h
    refine bk_named (back_17 _ ?_) (by simp) (by simp)
    rw [(idx_found _ h).2, List.length_take]
    have := index_lt _ h
    omega
  · rename_i h
    rw [if_pos rfl]
    exact bk_named (back_17 _ (idx_none _ ((idx_ge _).resolve_right h))) (by simp) (by simp)
theorem bk_end {l : List UInt8} {e n m i : Nat} (h : (endKey e n).kind ≠ 0) (h1 : 1 ≤ m) (h2 : m ≤ 8) : Bk l (mods (endKey e n) m, i) := by
  unfold endKey at h ⊢
  split
  · rename_i he
    rw [if_pos he] at h
    rcases numbered_cases n with g | g
    · exact absurd g h
    · exact bk_named (back_N h h1 h2) g.1 (Int.le_trans g.2.1 (by decide))
  · rename_i he
    rw [if_neg he] at h
    split
    · rename_i hn
      rw [if_pos hn] at h
      rcases lettered_cases e with g | g
      · exact absurd g h
      · exact bk_named (back_L h h1 h2) g.1 (Int.le_trans g.2.1 (by decide))
    · rename_i hn
      rw [if_neg hn] at h
      exact absurd rfl h
theorem bk_meaning (l : List UInt8) (i : Nat) (h : i + 1 ≤ l.length) : Bk l (meaning true l i) := by
  unfold meaning meaningN
  split
  · exact bk_unk l _ h
  · rename_i n m hx
    split
    · exact bk_paste l _
    · split
      · exact bk_unk l _ h
      · rename_i g
        have := nums_m hx
        exact bk_end g this.1 this.2
theorem bk_csi (a b : UInt8) (r : List UInt8) (h0 : a = 27) (h1 : b = 91) : Bk (a :: b :: r) (csi true (a :: b :: r)) := by
  have hl := scan_len (a :: b :: r) (by simp)
  have hw : Bk (a :: b :: r) (withM 91) := bk_withM (c := a) (b := b) r h0 (by rw [h1]; decide) (by rw [h1]; decide) |> fun h => by rw [h1] at h ⊢; exact h
  unfold csi
  split
  · rename_i g; exact bk_unk _ _ (by omega)
  · split
    · rw [if_neg (by simp)]
      split
      · exact hw
      · exact bk_unk _ _ hl
    · rename_i e t hd
      have h2 : scan (a :: b :: r) < (a :: b :: r).length := by
        rcases Nat.lt_or_ge (scan (a :: b :: r)) (a :: b :: r).length with g | g
        · exact g
        · rw [List.drop_of_length_le g] at hd; cases hd
      split
      · exact bk_meaning _ _ h2
      · split
        · exact hw
        · exact bk_unk _ _ hl
theorem mods_one {k : Key} (h : k.kind ≠ 15) (h1 : k.mt = false) (h2 : k.ctrl = false) (h3 : k.shift = false) : mods k 1 = k := by
  cases k
  simp only at h h1 h2 h3
  subst h1 h2 h3
  simp [mods, h]
theorem lettered_plain (e : Nat) (h : (lettered e).kind ≠ 15) : (lettered e).mt = false ∧ (lettered e).ctrl = false ∧ (lettered e).shift = false := by
  unfold lettered named key0 at *
  repeat' split
  all_goals first | exact ⟨rfl, rfl, rfl⟩ | (simp_all; done)
theorem bk_ss3 (a b : UInt8) (r : List UInt8) (h0 : a = 27) (h1 : b = 79) : Bk (a :: b :: r) (ss3 true (a :: b :: r)) := by
  have hw : Bk (a :: b :: r) (withM 79) := bk_withM (c := a) (b := b) r h0 (by rw [h1]; decide) (by rw [h1]; decide) |> fun h => by rw [h1] at h ⊢; exact h
  unfold ss3
  split
  · rw [if_neg (by simp)]; exact hw
  · rename_i c t hd
    have h2 : 2 < (a :: b :: r).length := by
      rcases Nat.lt_or_ge 2 (a :: b :: r).length with g | g
      · exact g
      · rw [List.drop_of_length_le g] at hd; cases hd
    split
    · exact hw
    · split
      · rename_i g
        have g1 := lettered_plain c.toNat g.2
        have g2 := back_L (m := 1) g.1 (by decide) (by decide)
        rw [mods_one g.2 g1.1 g1.2.1 g1.2.2] at g2
        rcases lettered_cases c.toNat with k | k
        · exact absurd k g.1
        · exact bk_named g2 k.1 (Int.le_trans k.2.1 (by decide))
      · exact bk_unk _ _ h2
theorem form_3 : form (named 3) = [27] := by
  rw [form_no rfl]; unfold lead0; rfl
theorem bk_rd (l : List UInt8) (hn : l ≠ []) : Bk l (rd true l) := by
  match l with
  | [] => exact absurd rfl hn
  | a :: r =>
    by_cases ha : a.toNat = 27
    · have ha' : a = 27 := UInt8.toNat_inj.mp (by rw [ha]; rfl)
      match r with
      | [] =>
        have e : rd true [a] = (named 3, 1) := by unfold rd; simp only; rw [if_neg (by omega), if_neg (by simp)]
        rw [e, ha']; exact .inl form_3
      | b :: r =>
        have e : rd true (a :: b :: r) = if b.toNat = 27 then (named 3, 1) else if b.toNat = 91 then csi true (a :: b :: r) else if b.toNat = 79 then ss3 true (a :: b :: r)
            else if (plain true (b :: r)).2 = 0 then (key0, 0) else ({ (plain true (b :: r)).1 with mt := true }, (plain true (b :: r)).2 + 1) := by
          conv => lhs; unfold rd
          simp only
          rw [if_neg (by omega)]
        rw [e]
        split
        · rw [ha']; exact .inl form_3
        · split
          · rename_i _ g
            exact bk_csi a b r ha' (UInt8.toNat_inj.mp (by rw [g]; rfl))
          · split
            · rename_i _ _ g
              exact bk_ss3 a b r ha' (UInt8.toNat_inj.mp (by rw [g]; rfl))
            · rename_i hb _ _
              have hp := plain_pos (b :: r) (by simp)
              rw [if_neg (by omega)]
              obtain ⟨h1, h2, h3⟩ := plain_back b r hb
              refine .inl ?_
              show form { (plain true (b :: r)).1 with mt := true } = (a :: b :: r).take ((plain true (b :: r)).2 + 1)
              rw [form_mt h2, h1, List.take_succ_cons, ha']
    · have e : rd true (a :: r) = plain true (a :: r) := by
        conv => lhs; unfold rd
        simp only
        rw [if_pos ha]
      rw [e]
      obtain ⟨h1, h2, h3⟩ := plain_back a r ha
      exact .inl (by rw [form_no h3]; exact h1)
/-- EVERY KEY THAT IS READ IS WRITTEN, and what is written is read as that key alone; a bare one's bytes are the very bytes. -/
theorem rd_back (l : List UInt8) (hn : l ≠ []) : bytesOf (rd true l).1 = (form (rd true l).1, true) ∧ keysOf true (form (rd true l).1) = [(rd true l).1] ∧ (bare (rd true l).1 → form (rd true l).1 = l.take (rd true l).2) := by
  have hk : keysOf true (form (rd true l).1) = [(rd true l).1] := by
    rcases bk_rd l hn with h | h
    · rw [h]
      have hp := rd_pos l hn
      have hle := rd_le true l
      have ht := rd_take l
      have hlen : (l.take (rd true l).2).length = (rd true l).2 := by rw [List.length_take, Nat.min_eq_left hle]
      refine one_key (fun g => ?_) (by rw [ht, hlen])
      rw [g] at hlen; exact hp hlen.symm
    · exact h.1
  refine ⟨?_, hk, fun hb => (bk_rd l hn).resolve_right (fun g => g.2 hb)⟩
  unfold bytesOf
  rw [if_neg]
  rintro (g | g)
  · rw [g] at hk; simp [keysOf, run, runN] at hk
  · exact g hk
end Go.Proofs.YtjjilhfebkeoeaaDoor.Ky
/- A key that is read is small: its text is no longer than the bytes, its character is a rune (KeysBack): plain. -/
namespace Go.Proofs.YtjjilhfebkeoeaaDoor.Ky
set_option linter.unusedVariables false
set_option linter.unusedSimpArgs false
def Sm (l : List UInt8) (k : Key) : Prop := k.text.length ≤ l.length ∧ -1 ≤ k.char ∧ k.char ≤ 1114111
theorem c_lo : (-1 : Int) ≤ 0 := by decide
theorem c_hi : (0 : Int) ≤ 1114111 := by decide
theorem sm_unk (l : List UInt8) (n : Nat) : Sm l (unknown (l.take n)).1 := ⟨by simp only [unknown, List.length_take]; omega, c_lo, c_hi⟩
theorem sm_lettered (l : List UInt8) (e : Nat) : Sm l (lettered e) := by
  unfold lettered named key0
  repeat' split
  all_goals (refine ⟨by simp, ?_, ?_⟩ <;> simp only <;> omega)
theorem sm_numbered (l : List UInt8) (n : Nat) : Sm l (numbered (n : Nat)) := by
  unfold numbered named key0
  repeat' split
  all_goals (refine ⟨by simp, ?_, ?_⟩ <;> simp only <;> omega)
theorem sm_plain (a : UInt8) (r : List UInt8) : Sm (a :: r) (plain true (a :: r)).1 := by
  have hb := fst_bound (a :: r)
  have hlt := a.toNat_lt
  unfold plain key0
  simp only
  repeat' split
  all_goals (refine ⟨by simp, ?_, ?_⟩ <;> simp only <;> omega)
theorem sm_paste (l : List UInt8) (i : Nat) : Sm l (paste true l i).1 := by
  unfold paste
  split
  · refine ⟨?_, c_lo, c_hi⟩
    simp only [List.length_take, List.length_drop]; omega
  · rw [if_pos rfl]
    refine ⟨?_, c_lo, c_hi⟩
    simp only [List.length_drop]; omega
theorem sm_meaning (l : List UInt8) (i : Nat) : Sm l (meaning true l i).1 := by
  unfold meaning meaningN
  split
  · exact sm_unk l _
  · split
    · exact sm_paste l _
    · split
      · exact sm_unk l _
      · rename_i n m _ _ _
        unfold mods endKey
        split
        · exact sm_numbered l n
        · split
          · exact sm_lettered l _
          · exact ⟨by simp [key0], c_lo, c_hi⟩
theorem sm_csi (l : List UInt8) : Sm l (csi true l).1 := by
  have hw : Sm l (withM 91).1 := ⟨by simp [withM], by decide, by decide⟩
  unfold csi
  split
  · exact sm_unk l _
  · split
    · rw [if_neg (by simp)]
      split
      · exact hw
      · exact sm_unk l _
    · split
      · exact sm_meaning l _
      · split
        · exact hw
        · exact sm_unk l _
theorem sm_ss3 (l : List UInt8) : Sm l (ss3 true l).1 := by
  have hw : Sm l (withM 79).1 := ⟨by simp [withM], by decide, by decide⟩
  unfold ss3
  split
  · rw [if_neg (by simp)]; exact hw
  · split
    · exact hw
    · split
      · exact sm_lettered l _
      · exact sm_unk l _
theorem sm_rd (l : List UInt8) : Sm l (rd true l).1 := by
  have h3 : Sm l (named 3) := ⟨by simp [named], c_lo, c_hi⟩
  have h0 : Sm l key0 := ⟨by simp [key0], c_lo, c_hi⟩
  match l with
  | [] => exact h0
  | a :: r =>
    unfold rd
    simp only
    split
    · exact sm_plain a r
    · split
      · rw [if_neg (by simp)]; exact h3
      · rename_i b r
        split
        · exact h3
        · split
          · exact sm_csi _
          · split
            · exact sm_ss3 _
            · split
              · exact h0
              · have := sm_plain b r
                exact ⟨Nat.le_trans this.1 (by simp), this.2.1, this.2.2⟩
theorem sm_keys (n : Nat) : ∀ l : List UInt8, l.length ≤ n → ∀ k ∈ keysOf true l, Sm l k := by
  induction n with
  | zero =>
    intro l h k hk
    have : l = [] := List.eq_nil_of_length_eq_zero (by omega)
    subst this; simp [keysOf, run, runN] at hk
  | succ n ih =>
    intro l h k hk
    unfold keysOf at hk
    by_cases h0 : (rd true l).2 = 0
    · rw [run_stop h0] at hk; simp at hk
    · have hle := rd_le true l
      rw [run_go h0] at hk
      simp only [List.map_cons, List.mem_cons] at hk
      rcases hk with rfl | hk
      · exact sm_rd l
      · have := ih (l.drop (rd true l).2) (by simp only [List.length_drop]; omega) k hk
        exact ⟨Nat.le_trans this.1 (by simp), this.2.1, this.2.2⟩
end Go.Proofs.YtjjilhfebkeoeaaDoor.Ky
