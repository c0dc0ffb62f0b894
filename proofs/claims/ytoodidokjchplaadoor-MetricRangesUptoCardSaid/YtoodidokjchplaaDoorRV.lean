/- The reference's Within, Class, Cells, joined: walked. -/
import Derived.Test.YtoodidokjchplaaDoorRT
namespace Go.Proofs.YtoodidokjchplaaDoor.Un
open Go Go.RowKit Go.Shelf
open Go.Proofs.YtoodidokjchplaaDoor.Wk (bcell bel_drew bel_drewN bel_alloc bel_set bel_call size_len blk_cell blk_below blk_lt mk_data cells_new)
set_option linter.unusedVariables false
set_option linter.unusedSimpArgs false
/-- A row of ranges. -/
def RdG (W : World) (A : Option Addr) (L : List (Int × Int)) : Prop := ∀ i (hi : i < L.length), ∃ g, A = some ⟨g, 0, none⟩ ∧ W.cell? ⟨g, i * 2, none⟩ = some (.int .i32 L[i].1) ∧ W.cell? ⟨g, i * 2 + 1, none⟩ = some (.int .i32 L[i].2)
theorem rgs_get : ∀ (L : List (Int × Int)) (i : Nat) (hi : i < L.length), (rgs L)[i * 2]? = some (.int .i32 L[i].1) ∧ (rgs L)[i * 2 + 1]? = some (.int .i32 L[i].2)
  | m :: r, 0, _ => ⟨rfl, rfl⟩
  | m :: r, i + 1, hi => by
    have h := rgs_get r i (by simpa using hi)
    have e : rgs (m :: r) = .int .i32 m.1 :: .int .i32 m.2 :: rgs r := rfl
    rw [e, show (i + 1) * 2 = i * 2 + 1 + 1 by omega]
    simpa using h
theorem RdG_own {W : World} {B e c : Nat} {A : Option Addr} {L : List (Int × Int)} (h : World.ownsRow W B e 2 (.slice A L.length c) L.length (rgs L)) : RdG W A L := by
  intro i hi
  rcases h.2 with ⟨h1, h0⟩ | ⟨g, cap, cur, h1, hg, hh, hc, _, hsz, htk⟩
  · omega
  · simp only [Value.slice.injEq] at h1
    obtain ⟨rfl, -, rfl⟩ := h1
    have hr := rgs_get L i hi
    refine ⟨g, rfl, ?_, ?_⟩
    · rw [blk_cell hh, ← hr.1, ← htk, List.getElem?_take_of_lt (by omega), Array.getElem?_toList]
    · rw [blk_cell hh, ← hr.2, ← htk, List.getElem?_take_of_lt (by omega), Array.getElem?_toList]
theorem RdG.below {W W' : World} {A : Option Addr} {L : List (Int × Int)} (h : RdG W A L) (hb : Below W.heap.size W W') : RdG W' A L := by
  intro i hi
  obtain ⟨g, e, c0, c1⟩ := h i hi
  exact ⟨g, e, cell_below c0 hb, cell_below c1 hb⟩
theorem inT_snoc (L : List (Int × Int)) (i : Nat) (hi : i < L.length) (c : Int) : inT (L.take (i + 1)) c = (inT (L.take i) c || (decide (L[i].1 ≤ c) && decide (c ≤ L[i].2))) := by
  rw [List.take_succ_eq_append_getElem hi]
  unfold inT
  rw [List.any_append]
  simp
theorem inT_hit {L : List (Int × Int)} {i : Nat} (hi : i < L.length) {c : Int} (h1 : L[i].1 ≤ c) (h2 : c ≤ L[i].2) : inT L c = true := by
  unfold inT
  rw [List.any_eq_true]
  exact ⟨L[i], List.getElem_mem hi, by simp [h1, h2]⟩
set_option maxRecDepth 100000 in
set_option maxHeartbeats 4000000 in
theorem rwithin_calls (A : Option Addr) (L : List (Int × Int)) (cp : Nat) (c : Int) (hn : L.length ≤ 1000000000) (w : World) (hR : RdG w A L) :
    Calls Tryd.prog 78 #[.slice A L.length cp, .int .i32 c] w fun e w' => e = .returned (.bool (inT L c)) ∧ Below w.heap.size w w' := by
  have HR := Lib.hid hR
  clear hR
  obtain ⟨R, hRe⟩ : ∃ R, inT L c = R := ⟨_, rfl⟩
  rw [hRe]
  replace hRe := Lib.hid hRe
  go_enter Tryd.func78, Tryd.ntmps78
  go_wp2_with fail
  go_loopw [5] (fun v3 wr => ∃ i : Nat, v3 = .int .i64 i ∧ i ≤ L.length ∧ Hid (inT (L.take i) c = false) ∧ Hid (Below w.heap.size w wr)) (fun v3 _ => L.length - (intOf v3).toNat)
  case atStart => exact ⟨0, rfl, by omega, rfl, Below.refl _ _⟩
  case round =>
    obtain ⟨i, rfl, hi, hf, hb⟩ := hrel
    have hiw : IntKind.i64.wrap ((i : Int) + 1) = (i : Int) + 1 := w64_id (by omega)
    by_cases hlt : i < L.length
    · have hlt' : (i : Int) < L.length := by omega
      obtain ⟨g, hg, c0, c1⟩ := (HR.out.below hb.out) i hlt
      have hst := inT_snoc L i hlt c
      have hhit := inT_hit (c := c) hlt
      obtain ⟨⟨x, y⟩, hxy⟩ : ∃ r, L[i] = r := ⟨_, rfl⟩
      rw [hxy] at c0 c1 hst hhit
      simp only at c0 c1 hst hhit
      rw [hf.out] at hst
      subst hg
      by_cases h1 : x ≤ c
      · by_cases h2 : c ≤ y
        · have hR1 : R = true := by rw [← hRe.out]; exact hhit h1 h2
          subst hR1
          clear hst hhit hxy
          go_wp2_with fail
          go_ret
          exact ⟨rfl, hb.out⟩
        · have hf2 : inT (L.take (i + 1)) c = false := by rw [hst]; simp [h2]
          have HF2 := Lib.hid hf2
          have h2' : y < c := by omega
          clear hst hhit hxy hf2 h2
          go_wp2_with fail
          exact ⟨⟨i + 1, by go_num, by omega, HF2, hb⟩, by simp [intOf]; omega⟩
      · have hf2 : inT (L.take (i + 1)) c = false := by rw [hst]; simp [h1]
        have HF2 := Lib.hid hf2
        have h1' : c < x := by omega
        clear hst hhit hxy hf2 h1
        go_wp2_with fail
        exact ⟨⟨i + 1, by go_num, by omega, HF2, hb⟩, by simp [intOf]; omega⟩
    · have hR0 : R = false := by
        rw [← hRe.out, ← hf.out, List.take_of_length_le (by omega)]
      subst hR0
      go_wp2_with fail
      go_ret
      exact ⟨rfl, hb.out⟩
theorem own_lenR {W : World} {B e : Nat} {v : Value} {L : List (Int × Int)} (ho : World.ownsRow W B e 2 v L.length (rgs L)) : ∃ A c, v = .slice A L.length c ∧ RdG W A L := by
  obtain ⟨A, c, rfl⟩ := own_len ho
  exact ⟨A, c, rfl, RdG_own ho⟩
theorem lowT (c : Int) (h : c < 768) : inT marksT c = false ∧ inT widesT c = false := by
  have k1 : ∀ r ∈ marksT, (768 : Int) ≤ r.1 := by decide
  have k2 : ∀ r ∈ widesT, (768 : Int) ≤ r.1 := by decide
  constructor
  · unfold inT
    rw [List.any_eq_false]
    intro r hr
    have := k1 r hr
    simp; omega
  · unfold inT
    rw [List.any_eq_false]
    intro r hr
    have := k2 r hr
    simp; omega
theorem own_tab {W : World} {B e : Nat} {v : Value} {T L : List (Int × Int)} (h : T = L) (ho : World.ownsRow W B e 2 v T.length (rgs T)) : ∃ A c, v = .slice A L.length c ∧ RdG W A L := by
  subst h
  exact own_lenR ho
set_option maxRecDepth 100000 in
set_option maxHeartbeats 4000000 in
theorem rclass_calls (c : Int) (w : World) : Calls Tryd.prog 64 #[.int .i32 c] w fun e w' => e = .returned (.int .i64 (clsOf c)) ∧ Below w.heap.size w w' := by
  unfold clsOf
  go_enter Tryd.func64, Tryd.ntmps64
  by_cases a1 : c < 0
  · rw [if_pos (by omega)]
    go_wp2
    go_ret
    exact ⟨rfl, Below.refl _ _⟩
  · by_cases a2 : 1114111 < c
    · rw [if_pos (by omega)]
      go_wp2
      go_ret
      exact ⟨rfl, Below.refl _ _⟩
    · by_cases a3 : 55296 ≤ c ∧ c ≤ 57343
      · rw [if_pos (by omega)]
        obtain ⟨a4, a5⟩ := a3
        go_wp2
        go_ret
        exact ⟨rfl, Below.refl _ _⟩
      · rw [if_neg (by omega)]
        by_cases z : 55296 ≤ c
        · have b2 : 57343 < c := by omega
          rw [if_neg (by omega), if_neg (by omega)]
          have n1 : (c == 10) = false := by simp; omega
          have n2 : 31 < c := by omega
          have n3 : 127 ≤ c := by omega
          have n4 : 159 < c := by omega
          have n5 : 768 ≤ c := by omega
          clear a3
          have M1 := Lib.hid (fun W A cp hR => rwithin_calls A marksT cp c (by decide) W hR)
          have M2 := Lib.hid (fun W A cp hR => rwithin_calls A widesT cp c (by decide) W hR)
          obtain ⟨m1, hm1⟩ : ∃ m, inT marksT c = m := ⟨_, rfl⟩
          obtain ⟨m2, hm2⟩ : ∃ m, inT widesT c = m := ⟨_, rfl⟩
          rw [hm1] at M1
          rw [hm2] at M2
          rw [hm1, hm2]
          clear hm1 hm2
          cases m1
          · cases m2
            · go_wp2_with (first
              | (go_at_call 78; (with_reducible refine (M2.out _ _ _ hr2).mono ?_); rintro e w4 ⟨rfl, g4⟩; have k4 := bel_call k3 g4)
              | (go_at_call 79; have k2' := k2; (with_reducible refine (rtable_calls _ (by decide) _).mono ?_); rintro e w3 ⟨v3, rfl, ho3, g3⟩; have k3 := bel_call k2' g3; obtain ⟨A2, c2, rfl, hr2⟩ := own_tab (L := widesT) (by decide +kernel) ho3)
              | (go_at_call 78; (with_reducible refine (M1.out _ _ _ hr1).mono ?_); rintro e w2 ⟨rfl, g2⟩; have k2 := bel_call k1 g2)
              | (go_at_call 79; (with_reducible refine (rtable_calls _ (by decide) _).mono ?_); rintro e w1 ⟨v1, rfl, ho1, k1⟩; obtain ⟨A1, c1, rfl, hr1⟩ := own_tab (L := marksT) (by decide +kernel) ho1))
              go_ret
              exact ⟨rfl, k4⟩
            · go_wp2_with (first
              | (go_at_call 78; (with_reducible refine (M2.out _ _ _ hr2).mono ?_); rintro e w4 ⟨rfl, g4⟩; have k4 := bel_call k3 g4)
              | (go_at_call 79; have k2' := k2; (with_reducible refine (rtable_calls _ (by decide) _).mono ?_); rintro e w3 ⟨v3, rfl, ho3, g3⟩; have k3 := bel_call k2' g3; obtain ⟨A2, c2, rfl, hr2⟩ := own_tab (L := widesT) (by decide +kernel) ho3)
              | (go_at_call 78; (with_reducible refine (M1.out _ _ _ hr1).mono ?_); rintro e w2 ⟨rfl, g2⟩; have k2 := bel_call k1 g2)
              | (go_at_call 79; (with_reducible refine (rtable_calls _ (by decide) _).mono ?_); rintro e w1 ⟨v1, rfl, ho1, k1⟩; obtain ⟨A1, c1, rfl, hr1⟩ := own_tab (L := marksT) (by decide +kernel) ho1))
              go_ret
              exact ⟨rfl, k4⟩
          · go_wp2_with (first
              | (go_at_call 78; (with_reducible refine (M2.out _ _ _ hr2).mono ?_); rintro e w4 ⟨rfl, g4⟩; have k4 := bel_call k3 g4)
              | (go_at_call 79; have k2' := k2; (with_reducible refine (rtable_calls _ (by decide) _).mono ?_); rintro e w3 ⟨v3, rfl, ho3, g3⟩; have k3 := bel_call k2' g3; obtain ⟨A2, c2, rfl, hr2⟩ := own_tab (L := widesT) (by decide +kernel) ho3)
              | (go_at_call 78; (with_reducible refine (M1.out _ _ _ hr1).mono ?_); rintro e w2 ⟨rfl, g2⟩; have k2 := bel_call k1 g2)
              | (go_at_call 79; (with_reducible refine (rtable_calls _ (by decide) _).mono ?_); rintro e w1 ⟨v1, rfl, ho1, k1⟩; obtain ⟨A1, c1, rfl, hr1⟩ := own_tab (L := marksT) (by decide +kernel) ho1))
            go_ret
            exact ⟨rfl, k2⟩
        · have b1 : c < 55296 := by omega
          clear z a3
          by_cases d1 : c = 10
          · rw [if_pos d1]
            subst d1
            go_wp2
            go_ret
            exact ⟨rfl, Below.refl _ _⟩
          · rw [if_neg d1]
            have n1 : (c == 10) = false := by simp; omega
            clear d1
            by_cases d2 : c ≤ 31
            · rw [if_pos (by omega)]
              go_wp2
              go_ret
              exact ⟨rfl, Below.refl _ _⟩
            · have n2 : 31 < c := by omega
              clear d2
              by_cases d3 : 127 ≤ c ∧ c ≤ 159
              · rw [if_pos (by omega)]
                obtain ⟨d4, d5⟩ := d3
                go_wp2
                go_ret
                exact ⟨rfl, Below.refl _ _⟩
              · rw [if_neg (by omega)]
                by_cases d4 : c < 768
                · obtain ⟨l1, l2⟩ := lowT c d4
                  rw [l1, l2]
                  by_cases d5 : 127 ≤ c
                  · have d6 : 159 < c := by omega
                    clear d3 l1 l2
                    go_wp2
                    go_ret
                    exact ⟨rfl, Below.refl _ _⟩
                  · clear d3 l1 l2
                    go_wp2
                    go_ret
                    exact ⟨rfl, Below.refl _ _⟩
                · have n3 : 127 ≤ c := by omega
                  have n4 : 159 < c := by omega
                  have n5 : 768 ≤ c := by omega
                  clear d3 d4
                  have M1 := Lib.hid (fun W A cp hR => rwithin_calls A marksT cp c (by decide) W hR)
                  have M2 := Lib.hid (fun W A cp hR => rwithin_calls A widesT cp c (by decide) W hR)
                  obtain ⟨m1, hm1⟩ : ∃ m, inT marksT c = m := ⟨_, rfl⟩
                  obtain ⟨m2, hm2⟩ : ∃ m, inT widesT c = m := ⟨_, rfl⟩
                  rw [hm1] at M1
                  rw [hm2] at M2
                  rw [hm1, hm2]
                  clear hm1 hm2
                  cases m1
                  · cases m2
                    · go_wp2_with (first
                      | (go_at_call 78; (with_reducible refine (M2.out _ _ _ hr2).mono ?_); rintro e w4 ⟨rfl, g4⟩; have k4 := bel_call k3 g4)
                      | (go_at_call 79; have k2' := k2; (with_reducible refine (rtable_calls _ (by decide) _).mono ?_); rintro e w3 ⟨v3, rfl, ho3, g3⟩; have k3 := bel_call k2' g3; obtain ⟨A2, c2, rfl, hr2⟩ := own_tab (L := widesT) (by decide +kernel) ho3)
                      | (go_at_call 78; (with_reducible refine (M1.out _ _ _ hr1).mono ?_); rintro e w2 ⟨rfl, g2⟩; have k2 := bel_call k1 g2)
                      | (go_at_call 79; (with_reducible refine (rtable_calls _ (by decide) _).mono ?_); rintro e w1 ⟨v1, rfl, ho1, k1⟩; obtain ⟨A1, c1, rfl, hr1⟩ := own_tab (L := marksT) (by decide +kernel) ho1))
                      go_ret
                      exact ⟨rfl, k4⟩
                    · go_wp2_with (first
                      | (go_at_call 78; (with_reducible refine (M2.out _ _ _ hr2).mono ?_); rintro e w4 ⟨rfl, g4⟩; have k4 := bel_call k3 g4)
                      | (go_at_call 79; have k2' := k2; (with_reducible refine (rtable_calls _ (by decide) _).mono ?_); rintro e w3 ⟨v3, rfl, ho3, g3⟩; have k3 := bel_call k2' g3; obtain ⟨A2, c2, rfl, hr2⟩ := own_tab (L := widesT) (by decide +kernel) ho3)
                      | (go_at_call 78; (with_reducible refine (M1.out _ _ _ hr1).mono ?_); rintro e w2 ⟨rfl, g2⟩; have k2 := bel_call k1 g2)
                      | (go_at_call 79; (with_reducible refine (rtable_calls _ (by decide) _).mono ?_); rintro e w1 ⟨v1, rfl, ho1, k1⟩; obtain ⟨A1, c1, rfl, hr1⟩ := own_tab (L := marksT) (by decide +kernel) ho1))
                      go_ret
                      exact ⟨rfl, k4⟩
                  · go_wp2_with (first
                      | (go_at_call 78; (with_reducible refine (M2.out _ _ _ hr2).mono ?_); rintro e w4 ⟨rfl, g4⟩; have k4 := bel_call k3 g4)
                      | (go_at_call 79; have k2' := k2; (with_reducible refine (rtable_calls _ (by decide) _).mono ?_); rintro e w3 ⟨v3, rfl, ho3, g3⟩; have k3 := bel_call k2' g3; obtain ⟨A2, c2, rfl, hr2⟩ := own_tab (L := widesT) (by decide +kernel) ho3)
                      | (go_at_call 78; (with_reducible refine (M1.out _ _ _ hr1).mono ?_); rintro e w2 ⟨rfl, g2⟩; have k2 := bel_call k1 g2)
                      | (go_at_call 79; (with_reducible refine (rtable_calls _ (by decide) _).mono ?_); rintro e w1 ⟨v1, rfl, ho1, k1⟩; obtain ⟨A1, c1, rfl, hr1⟩ := own_tab (L := marksT) (by decide +kernel) ho1))
                    go_ret
                    exact ⟨rfl, k2⟩
end Go.Proofs.YtoodidokjchplaaDoor.Un
