/- The reference's begins: walked. -/
import Derived.Test.YtoodidokjchplaaDoorRB
namespace Go.Proofs.YtoodidokjchplaaDoor.Un
open Go Go.RowKit Go.Shelf
open Go.Proofs.YtoodidokjchplaaDoor.Wk (bcell bel_drew bel_drewN bel_alloc bel_set bel_call size_len blk_cell blk_below blk_lt mk_data cells_new)
set_option linter.unusedVariables false
set_option linter.unusedSimpArgs false
theorem bgR_eq (s : ByteArray) (h0 : 0 < s.size) {c0 m : Int} (hl : ldR (s[0].toNat : Int) = (c0, m)) :
    bgR s.data.toList = if m < 0 ∨ (s.size : Int) ≤ m then -1 else if ((s.data.toList.drop 1).take m.toNat).all cont = true then
      (if scR (foldR c0 ((s.data.toList.drop 1).take m.toNat)) = true ∧ szR (foldR c0 ((s.data.toList.drop 1).take m.toNat)) = m + 1 then foldR c0 ((s.data.toList.drop 1).take m.toNat) else -1) else -1 := by
  have hlen := size_len s
  have e0 : s.data.toList = s[0] :: s.data.toList.drop 1 := by
    have hp : 0 < s.data.toList.length := by rw [hlen]; exact h0
    have := List.drop_eq_getElem_cons hp
    rw [List.drop_zero] at this
    rw [show s[0] = s.data.toList[0] from rfl]
    exact this
  obtain ⟨r, hr⟩ : ∃ r, s.data.toList.drop 1 = r := ⟨_, rfl⟩
  rw [hr] at e0
  have hsz : (s.size : Int) = ((s[0] :: r).length : Nat) := by rw [← e0, hlen]
  rw [hr, hsz, e0]
  unfold bgR
  simp only [hl]
def bd : Nat → Int
  | 0 => 2097152
  | 1 => 32768
  | 2 => 512
  | _ => 8
theorem bd_step {c b : Int} {n : Nat} (hn : n ≤ 2) (hc : 0 ≤ c ∧ c < bd (n + 1)) (hb : 128 ≤ b ∧ b ≤ 191) : (0 ≤ c * 64 + b - 128 ∧ c * 64 + b - 128 < bd n) ∧ c < 32768 := by
  have h : n = 0 ∨ n = 1 ∨ n = 2 := by omega
  rcases h with rfl | rfl | rfl
  · have : bd (0 + 1) = 32768 := rfl
    have : bd 0 = 2097152 := rfl
    omega
  · have : bd (1 + 1) = 512 := rfl
    have : bd 1 = 32768 := rfl
    omega
  · have : bd (2 + 1) = 8 := rfl
    have : bd 2 = 512 := rfl
    omega
theorem ldR_bd (b : Nat) {c m : Int} (h : ldR b = (c, m)) (hm : 0 ≤ m) : m ≤ 3 ∧ 0 ≤ c ∧ c < bd m.toNat := by
  unfold ldR at h
  repeat' split at h
  all_goals (cases h)
  · exact ⟨by omega, by omega, by show (b : Int) < 2097152; omega⟩
  · exact ⟨by omega, by omega, by show (b : Int) - 192 < 32768; omega⟩
  · exact ⟨by omega, by omega, by show (b : Int) - 224 < 512; omega⟩
  · exact ⟨by omega, by omega, by show (b : Int) - 240 < 8; omega⟩
  · omega
theorem drop_step (s : ByteArray) (M k : Nat) (h1 : 1 ≤ k) (hk : k ≤ M) (hM : M < s.size) : ((s.data.toList.drop 1).take M).drop (k - 1) = s[k] :: ((s.data.toList.drop 1).take M).drop k := by
  have hlen := size_len s
  have hl : k - 1 < ((s.data.toList.drop 1).take M).length := by rw [List.length_take, List.length_drop, hlen]; omega
  rw [List.drop_eq_getElem_cons hl, show k - 1 + 1 = k by omega]
  congr 1
  rw [List.getElem_take, List.getElem_drop]
  show s.data.toList[1 + (k - 1)] = s.data.toList[k]
  congr 1
  omega
set_option maxRecDepth 100000 in
set_option maxHeartbeats 4000000 in
theorem rbegins_calls (s : ByteArray) (h0 : 0 < s.size) (hs : s.size ≤ 1000000000) (w : World) :
    Calls Tryd.prog 76 #[.string s] w fun e w' => e = .returned (.int .i32 (bgR s.data.toList)) ∧ w' = w := by
  have hz : (0 : Int) < s.size := by omega
  have hb : 0 ≤ (s[0].toNat : Int) ∧ (s[0].toNat : Int) < 256 := by have := s[0].toNat_lt; omega
  have LC := Lib.hid (fun W => rlead_calls (s[0].toNat : Int) hb W)
  obtain ⟨c0, m, hl⟩ : ∃ c m, ldR (s[0].toNat : Int) = (c, m) := ⟨_, _, rfl⟩
  rw [hl] at LC
  rw [bgR_eq s h0 hl]
  obtain ⟨r, hr⟩ : ∃ r, (s.data.toList.drop 1).take m.toNat = r := ⟨_, rfl⟩
  rw [hr]
  have hbd := ldR_bd s[0].toNat hl
  clear hb hl
  go_enter Tryd.func76, Tryd.ntmps76
  by_cases hm : m < 0
  · rw [if_pos (.inl hm)]
    clear hbd hr
    go_wp2_with (first
      | (go_at_call 92; (with_reducible refine (LC.out _).mono ?_); rintro e w1 ⟨rfl, rfl⟩))
    go_ret
    exact ⟨rfl, rfl⟩
  · have hm0 : 0 ≤ m := by omega
    obtain ⟨hm3, hc0⟩ := hbd hm0
    clear hbd hm
    by_cases hsm : (s.size : Int) ≤ m
    · rw [if_pos (.inr hsm)]
      clear hr hc0 hm3
      go_wp2_with (first
        | (go_at_call 92; (with_reducible refine (LC.out _).mono ?_); rintro e w1 ⟨rfl, rfl⟩))
      go_ret
      exact ⟨rfl, rfl⟩
    · rw [if_neg (by omega)]
      have hsm' : m < (s.size : Int) := by omega
      obtain ⟨M, rfl⟩ : ∃ M : Nat, m = (M : Int) := ⟨m.toNat, by omega⟩
      rw [Int.toNat_natCast] at hr hc0
      have hM3 : M ≤ 3 := by omega
      have hMs : M < s.size := by omega
      obtain ⟨R, hR⟩ : ∃ R, (if r.all cont = true then (if scR (foldR c0 r) = true ∧ szR (foldR c0 r) = (M : Int) + 1 then foldR c0 r else -1) else -1) = R := ⟨_, rfl⟩
      rw [hR]
      have HRes := Lib.hid hR
      have hMn : ((M : Int) < 0) = False := eq_false (by omega)
      have hsN : (s.size ≤ M) = False := eq_false (by omega)
      have HR := Lib.hid hr
      have HC := Lib.hid hc0
      clear hR
      clear hsm hr hc0 hm3
      go_wp2_with (first
        | (go_at_call 92; (with_reducible refine (LC.out _).mono ?_); rintro e w1 ⟨rfl, rfl⟩))
      go_loopw [3, 5] (fun v3 v5 wr => ∃ (c : Int) (k : Nat), v3 = .int .i32 c ∧ v5 = .int .i64 k ∧ 1 ≤ k ∧ k ≤ M + 1 ∧ Hid (0 ≤ c ∧ c < bd (M + 1 - k)) ∧ Hid (foldR c (r.drop (k - 1)) = foldR c0 r ∧ (r.drop (k - 1)).all cont = r.all cont) ∧ wr = w1) (fun v3 v5 _ => M + 1 - (intOf v5).toNat)
      case atStart => exact ⟨c0, 1, rfl, rfl, by omega, by omega, by rw [show M + 1 - 1 = M by omega]; exact HC.out, ⟨rfl, rfl⟩, rfl⟩
      case round =>
        obtain ⟨c, k, rfl, rfl, hk1, hk2, hc, hf, rfl⟩ := hrel
        by_cases hlt : k ≤ M
        · have hki : (k : Int) ≤ M := by omega
          have hks : k < s.size := by omega
          have hks' : (k : Int) < s.size := by omega
          have hd := drop_step s M k hk1 hlt hMs
          rw [HR.out] at hd
          have hf' := hf.out
          rw [hd] at hf'
          have hbt := s[k].toNat_lt
          have hkw : IntKind.i64.wrap ((k : Int) + 1) = (k : Int) + 1 := w64_id (by omega)
          obtain ⟨b, hb⟩ : ∃ b, s[k].toNat = b := ⟨_, rfl⟩
          have hcb : cont s[k] = true ↔ 128 ≤ b ∧ b ≤ 191 := by rw [cont_iff, hb]
          by_cases h1 : b < 128
          · have h1' : (s[k].toNat : Int) < 128 := by omega
            have hcf : r.all cont = false := by
              rw [← hf'.2, List.all_cons]
              have : cont s[k] = false := by
                cases e : cont s[k]
                · rfl
                · have := hcb.1 e; omega
              rw [this]; rfl
            have HCF := Lib.hid hcf
            clear hd hf' hcb hb hcf
            have hRe : R = -1 := by rw [← HRes.out, HCF.out]; rfl
            subst hRe
            go_wp2_with fail
            go_ret
            exact ⟨rfl, rfl⟩
          · have h1' : (128 : Int) ≤ s[k].toNat := by omega
            by_cases h2 : 191 < b
            · have h2' : (191 : Int) < s[k].toNat := by omega
              have hcf : r.all cont = false := by
                rw [← hf'.2, List.all_cons]
                have : cont s[k] = false := by
                  cases e : cont s[k]
                  · rfl
                  · have := hcb.1 e; omega
                rw [this]; rfl
              have HCF := Lib.hid hcf
              clear hd hf' hcb hb hcf h1
              have hRe : R = -1 := by rw [← HRes.out, HCF.out]; rfl
              subst hRe
              go_wp2_with fail
              go_ret
              exact ⟨rfl, rfl⟩
            · have h2' : (s[k].toNat : Int) ≤ 191 := by omega
              have hst := bd_step (c := c) (b := (b : Int)) (n := M - k) (by omega) (by rw [show M - k + 1 = M + 1 - k by omega]; exact hc.out) (by omega)
              have e1 : IntKind.i32.wrap (c * 64) = c * 64 := by have := hc.out; rw [IntKind.wrap_i32]; omega
              have e2 : IntKind.i32.wrap (s[k].toNat : Int) = (s[k].toNat : Int) := by rw [IntKind.wrap_i32]; omega
              have e3 : IntKind.i32.wrap (c * 64 + (s[k].toNat : Int)) = c * 64 + (s[k].toNat : Int) := by have := hc.out; rw [IntKind.wrap_i32]; omega
              have e4 : IntKind.i32.wrap (c * 64 + (s[k].toNat : Int) - 128) = c * 64 + (s[k].toNat : Int) - 128 := by have := hc.out; rw [IntKind.wrap_i32]; omega
              have HS := Lib.hid hst
              have HF := Lib.hid hf'
              have HCB := Lib.hid (hcb.2 (by omega))
              have HB := Lib.hid hb
              clear hd hf' hcb hb hst h1 h2
              go_wp2_with fail
              go_roundw
              case rel =>
                refine ⟨c * 64 + (s[k].toNat : Int) - 128, k + 1, rfl, by go_num, by omega, by omega, ?_, ⟨?_, ?_⟩, trivial⟩
                · rw [HB.out, show M + 1 - (k + 1) = M - k by omega]; exact HS.out.1
                · exact HF.out.1
                · rw [← HF.out.2, List.all_cons, HCB.out]; rfl
              case measure => simp [intOf]; omega
        · have hke : k = M + 1 := by omega
          have hdr : r.drop (k - 1) = [] := by
            rw [hke, ← HR.out]
            exact List.drop_eq_nil_of_le (by rw [List.length_take]; omega)
          have hf' := hf.out
          rw [hdr] at hf'
          have hfe : c = foldR c0 r := hf'.1
          have hal : r.all cont = true := hf'.2.symm
          have hres := HRes.out
          rw [if_pos hal, ← hfe] at hres
          have hki : (M : Int) < k := by omega
          have SC := Lib.hid (fun W => rscalar_calls c W)
          have SZ := Lib.hid (fun W => rsize_calls c W)
          have hMw : IntKind.i64.wrap ((M : Int) + 1) = (M : Int) + 1 := w64_id (by omega)
          clear hdr hf' hfe hal hf hke HRes
          by_cases g1 : scR c = true
          · by_cases g2 : szR c = (M : Int) + 1
            · have q : (szR c != (M : Int) + 1) = false := by simp [g2]
              rw [if_pos ⟨g1, g2⟩] at hres
              subst hres
              clear g2
              go_wp2_with (first
                | (go_at_call 93; (with_reducible refine (SC.out _).mono ?_); rintro e w1 ⟨rfl, rfl⟩)
                | (go_at_call 77; (with_reducible refine (SZ.out _).mono ?_); rintro e w1 ⟨rfl, rfl⟩))
              go_ret
              exact ⟨rfl, rfl⟩
            · have q : (szR c != (M : Int) + 1) = true := by simp [g2]
              rw [if_neg (fun z => g2 z.2)] at hres
              subst hres
              clear g2
              go_wp2_with (first
                | (go_at_call 93; (with_reducible refine (SC.out _).mono ?_); rintro e w1 ⟨rfl, rfl⟩)
                | (go_at_call 77; (with_reducible refine (SZ.out _).mono ?_); rintro e w1 ⟨rfl, rfl⟩))
              go_ret
              exact ⟨rfl, rfl⟩
          · rw [if_neg (fun z => g1 z.1)] at hres
            subst hres
            have g1' : scR c = false := by simpa using g1
            clear g1
            go_wp2_with (first
              | (go_at_call 93; (with_reducible refine (SC.out _).mono ?_); rintro e w1 ⟨rfl, rfl⟩))
            go_ret
            exact ⟨rfl, rfl⟩
end Go.Proofs.YtoodidokjchplaaDoor.Un
