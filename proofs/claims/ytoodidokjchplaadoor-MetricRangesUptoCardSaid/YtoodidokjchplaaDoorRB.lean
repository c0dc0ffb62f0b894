/- The reference's first unit of a text: begins, walked; it is fst. -/
import Derived.Test.YtoodidokjchplaaDoorRA
namespace Go.Proofs.YtoodidokjchplaaDoor.Un
open Go Go.RowKit Go.Shelf
open Go.Proofs.YtoodidokjchplaaDoor.Wk (bcell bel_drew bel_drewN bel_alloc bel_set bel_call size_len blk_cell blk_below blk_lt mk_data cells_new)
set_option linter.unusedVariables false
set_option linter.unusedSimpArgs false
def foldR (c : Int) : List UInt8 → Int
  | [] => c
  | b :: r => foldR (c * 64 + b.toNat - 128) r
/-- What 'begins' answers. -/
def bgR (l : List UInt8) : Int :=
  match l with
  | [] => -1
  | a :: r =>
    if (ldR a.toNat).2 < 0 ∨ ((a :: r).length : Int) ≤ (ldR a.toNat).2 then -1
    else if (r.take (ldR a.toNat).2.toNat).all cont = true then
      (if scR (foldR (ldR a.toNat).1 (r.take (ldR a.toNat).2.toNat)) = true ∧ szR (foldR (ldR a.toNat).1 (r.take (ldR a.toNat).2.toNat)) = (ldR a.toNat).2 + 1 then foldR (ldR a.toNat).1 (r.take (ldR a.toNat).2.toNat) else -1)
    else -1
theorem scR_iff (c : Int) : scR c = true ↔ 0 ≤ c ∧ c ≤ 1114111 ∧ (c < 55296 ∨ 57343 < c) := by unfold scR; simp
theorem szR_iff2 (c : Int) : szR c = 2 ↔ 128 ≤ c ∧ c < 2048 := by unfold szR; repeat' split <;> omega
theorem szR_iff3 (c : Int) : szR c = 3 ↔ 2048 ≤ c ∧ c < 65536 := by unfold szR; repeat' split <;> omega
theorem szR_iff4 (c : Int) : szR c = 4 ↔ 65536 ≤ c := by unfold szR; repeat' split <;> omega
theorem ldR0 {a : Nat} (h : a < 128) : ldR a = ((a : Int), 0) := by unfold ldR; rw [if_pos (by omega)]
theorem ldRn {a : Nat} (h : (128 ≤ a ∧ a < 192) ∨ 248 ≤ a) : ldR a = (0, -1) := by unfold ldR; rw [if_neg (by omega), if_neg (by omega), if_neg (by omega), if_neg (by omega)]
theorem ldR1 {a : Nat} (h : 192 ≤ a ∧ a < 224) : ldR a = ((a : Int) - 192, 1) := by unfold ldR; rw [if_neg (by omega), if_pos (by omega)]
theorem ldR2 {a : Nat} (h : 224 ≤ a ∧ a < 240) : ldR a = ((a : Int) - 224, 2) := by unfold ldR; rw [if_neg (by omega), if_neg (by omega), if_pos (by omega)]
theorem ldR3 {a : Nat} (h : 240 ≤ a ∧ a < 248) : ldR a = ((a : Int) - 240, 3) := by unfold ldR; rw [if_neg (by omega), if_neg (by omega), if_neg (by omega), if_pos (by omega)]
theorem lead_eq (n : Nat) : (lead n) = if n < 194 then (0, 0, 0) else if n < 224 then (2, 128, 191) else if n = 224 then (3, 160, 191) else if n = 237 then (3, 128, 159) else if n < 240 then (3, 128, 191)
  else if n = 240 then (4, 144, 191) else if n < 244 then (4, 128, 191) else if n = 244 then (4, 128, 143) else (0, 0, 0) := rfl
theorem bgR_fst (a : UInt8) (r : List UInt8) : bgR (a :: r) = (fst (a :: r)).1 := by
  have ha := a.toNat_lt
  by_cases h0 : a.toNat < 128
  · rw [fst_ascii r h0]
    unfold bgR
    simp only [ldR0 h0, foldR, Int.toNat_zero, List.take_zero, List.all_nil]
    rw [if_neg (by simp only [List.length_cons]; omega), if_pos trivial]
    rw [if_pos ⟨by unfold scR; simp; omega, by unfold szR; rw [if_pos (by omega)]; rfl⟩]
  · by_cases hn : a.toNat < 192 ∨ 248 ≤ a.toNat
    · rw [fst_none r h0 (by rw [lead_eq]; (repeat' split) <;> first | rfl | omega)]
      unfold bgR
      simp only [ldRn (show (128 ≤ a.toNat ∧ a.toNat < 192) ∨ 248 ≤ a.toNat by omega)]
      rw [if_pos (.inl (by omega))]
    · by_cases h1 : a.toNat < 224
      · have e := ldR1 (a := a.toNat) (by omega)
        unfold bgR
        simp only [e]
        match r with
        | [] =>
          rw [if_pos (.inr (by simp))]
          by_cases g : a.toNat < 194
          · rw [fst_none [] h0 (by rw [lead_eq, if_pos g])]
          · rw [fst_s1 (.inl (by rw [lead_eq, if_neg g, if_pos h1]))]
        | b :: r' =>
          have hb := b.toNat_lt
          rw [if_neg (by simp only [List.length_cons]; omega)]
          show (if ([b].all cont = true) then _ else _) = _
          simp only [List.all_cons, List.all_nil, Bool.and_true, show (1 : Int).toNat = 1 from rfl, List.take_succ_cons, List.take_zero, foldR]
          by_cases g : a.toNat < 194
          · rw [fst_none _ h0 (by rw [lead_eq, if_pos g])]
            by_cases k : cont b = true
            · rw [if_pos k, if_neg]
              rintro ⟨-, k2⟩
              have k1 := (cont_iff b).1 k
              unfold szR at k2
              rw [if_pos (by omega)] at k2
              omega
            · rw [if_neg k]
          · have l2 : lead a.toNat = (2, 128, 191) := by rw [lead_eq, if_neg g, if_pos h1]
            rw [fst_two b r' (by rw [l2])]
            have hs : sec a b = cont b := by unfold sec cont; rw [l2]
            rw [hs]
            by_cases k : cont b = true
            · have k1 := (cont_iff b).1 k
              rw [if_pos k, if_pos k, if_pos]
              · show ((a.toNat : Int) - 192) * 64 + b.toNat - 128 = ((two a.toNat b.toNat : Nat) : Int)
                unfold two
                omega
              · exact ⟨(scR_iff _).2 (by omega), (szR_iff2 _).2 (by omega)⟩
            · rw [if_neg k, if_neg k]
      · by_cases h2 : a.toNat < 240
        · have e := ldR2 (a := a.toNat) (by omega)
          have h30 : (lead a.toNat).1 = 3 := by rw [lead_eq, if_neg (by omega), if_neg h1]; (repeat' split) <;> first | rfl | omega
          have h3c : (a.toNat = 224 ∧ lead a.toNat = (3, 160, 191)) ∨ (a.toNat = 237 ∧ lead a.toNat = (3, 128, 159)) ∨ (a.toNat ≠ 224 ∧ a.toNat ≠ 237 ∧ lead a.toNat = (3, 128, 191)) := by
            by_cases q1 : a.toNat = 224
            · exact .inl ⟨q1, by rw [lead_eq, if_neg (by omega), if_neg h1, if_pos q1]⟩
            · by_cases q2 : a.toNat = 237
              · exact .inr (.inl ⟨q2, by rw [lead_eq, if_neg (by omega), if_neg h1, if_neg q1, if_pos q2]⟩)
              · exact .inr (.inr ⟨q1, q2, by rw [lead_eq, if_neg (by omega), if_neg h1, if_neg q1, if_neg q2, if_pos h2]⟩)
          unfold bgR
          simp only [e]
          match r with
          | [] => rw [if_pos (.inr (by simp)), fst_s1 (.inr (.inl h30))]
          | [b] => rw [if_pos (.inr (by simp)), fst_s2 b (.inl h30)]
          | b :: c :: r' =>
            have hb := b.toNat_lt
            have hc := c.toNat_lt
            rw [if_neg (by simp only [List.length_cons]; omega), fst_thr b c r' h30]
            simp only [List.all_cons, List.all_nil, Bool.and_true, show (2 : Int).toNat = 2 from rfl, List.take_succ_cons, List.take_zero, foldR, Bool.and_eq_true]
            by_cases k : cont b = true ∧ cont c = true
            · have k1 := (cont_iff b).1 k.1
              have k2 := (cont_iff c).1 k.2
              rw [if_pos k]
              have key : (scR ((((a.toNat : Int) - 224) * 64 + b.toNat - 128) * 64 + c.toNat - 128) = true ∧ szR ((((a.toNat : Int) - 224) * 64 + b.toNat - 128) * 64 + c.toNat - 128) = 2 + 1) ↔ (sec a b = true ∧ cont c = true) := by
                rw [sec_iff, scR_iff, show (2 : Int) + 1 = 3 from rfl, szR_iff3, cont_iff]
                rcases h3c with ⟨q, l⟩ | ⟨q, l⟩ | ⟨q, q', l⟩ <;> rw [l] <;> simp only <;> omega
              by_cases g : sec a b = true ∧ cont c = true
              · rw [if_pos (key.2 g), if_pos g]
                show _ = ((thr a.toNat b.toNat c.toNat : Nat) : Int)
                unfold thr
                omega
              · rw [if_neg (fun z => g (key.1 z)), if_neg g]
            · rw [if_neg k, if_neg]
              rintro ⟨g1, g2⟩
              exact k ⟨(cont_iff b).2 (sec_cont g1 (by omega)), g2⟩
        · have e := ldR3 (a := a.toNat) (by omega)
          by_cases h5 : 245 ≤ a.toNat
          · rw [fst_none r h0 (by rw [lead_eq]; (repeat' split) <;> first | rfl | omega)]
            unfold bgR
            simp only [e]
            match r with
            | [] => rw [if_pos (.inr (by simp))]
            | [b] => rw [if_pos (.inr (by simp))]
            | [b, c] => rw [if_pos (.inr (by simp))]
            | b :: c :: d :: r' =>
              rw [if_neg (by simp only [List.length_cons]; omega)]
              simp only [List.all_cons, List.all_nil, Bool.and_true, show (3 : Int).toNat = 3 from rfl, List.take_succ_cons, List.take_zero, foldR, Bool.and_eq_true]
              by_cases k : cont b = true ∧ cont c = true ∧ cont d = true
              · have k1 := (cont_iff b).1 k.1
                have k2 := (cont_iff c).1 k.2.1
                have k3 := (cont_iff d).1 k.2.2
                rw [if_pos k, if_neg]
                rintro ⟨z1, -⟩
                have z := (scR_iff _).1 z1
                omega
              · rw [if_neg k]
          · have h40 : (lead a.toNat).1 = 4 := by rw [lead_eq, if_neg (by omega), if_neg h1]; (repeat' split) <;> first | rfl | omega
            have h4c : (a.toNat = 240 ∧ lead a.toNat = (4, 144, 191)) ∨ (a.toNat = 244 ∧ lead a.toNat = (4, 128, 143)) ∨ (a.toNat ≠ 240 ∧ a.toNat ≠ 244 ∧ lead a.toNat = (4, 128, 191)) := by
              by_cases q1 : a.toNat = 240
              · exact .inl ⟨q1, by rw [q1]; rfl⟩
              · by_cases q2 : a.toNat = 244
                · exact .inr (.inl ⟨q2, by rw [q2]; rfl⟩)
                · have q3 : a.toNat = 241 ∨ a.toNat = 242 ∨ a.toNat = 243 := by omega
                  exact .inr (.inr ⟨q1, q2, by rcases q3 with q | q | q <;> rw [q] <;> rfl⟩)
            unfold bgR
            simp only [e]
            match r with
            | [] => rw [if_pos (.inr (by simp)), fst_s1 (.inr (.inr h40))]
            | [b] => rw [if_pos (.inr (by simp)), fst_s2 b (.inr h40)]
            | [b, c] => rw [if_pos (.inr (by simp)), fst_s3 b c h40]
            | b :: c :: d :: r' =>
              have hb := b.toNat_lt
              have hc := c.toNat_lt
              have hd := d.toNat_lt
              rw [if_neg (by simp only [List.length_cons]; omega), fst_fou b c d r' h40]
              simp only [List.all_cons, List.all_nil, Bool.and_true, show (3 : Int).toNat = 3 from rfl, List.take_succ_cons, List.take_zero, foldR, Bool.and_eq_true]
              by_cases k : cont b = true ∧ cont c = true ∧ cont d = true
              · have k1 := (cont_iff b).1 k.1
                have k2 := (cont_iff c).1 k.2.1
                have k3 := (cont_iff d).1 k.2.2
                rw [if_pos k]
                have key : (scR (((((a.toNat : Int) - 240) * 64 + b.toNat - 128) * 64 + c.toNat - 128) * 64 + d.toNat - 128) = true ∧ szR (((((a.toNat : Int) - 240) * 64 + b.toNat - 128) * 64 + c.toNat - 128) * 64 + d.toNat - 128) = 3 + 1) ↔ (sec a b = true ∧ cont c = true ∧ cont d = true) := by
                  rw [sec_iff, scR_iff, show (3 : Int) + 1 = 4 from rfl, szR_iff4, cont_iff, cont_iff]
                  rcases h4c with ⟨q, l⟩ | ⟨q, l⟩ | ⟨q, q', l⟩ <;> rw [l] <;> simp only <;> omega
                by_cases g : sec a b = true ∧ cont c = true ∧ cont d = true
                · rw [if_pos (key.2 g), if_pos g]
                  show _ = ((fou a.toNat b.toNat c.toNat d.toNat : Nat) : Int)
                  unfold fou
                  omega
                · rw [if_neg (fun z => g (key.1 z)), if_neg g]
              · rw [if_neg k, if_neg]
                rintro ⟨g1, g2, g3⟩
                exact k ⟨(cont_iff b).2 (sec_cont g1 (by omega)), g2, g3⟩
end Go.Proofs.YtoodidokjchplaaDoor.Un
