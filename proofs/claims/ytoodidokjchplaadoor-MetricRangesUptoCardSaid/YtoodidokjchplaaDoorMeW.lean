/- sort.Search over a closure that leaves what lay below; width.within, Class, Cells: walked. -/
import Derived.Test.YtoodidokjchplaaDoorMeV
import Derived.Test.YtoodidokjchplaaDoorMeW0
import Derived.Deep.DeepMust
import Derived.Shelf.Abstract
import Derived.LaidByTextLater
import Derived.Lib.LaidTab
namespace Go.Proofs.YtoodidokjchplaaDoor.Un
open Go Go.RowKit Go.Shelf
open Go.Proofs.YtoodidokjchplaaDoor.Wk (bcell bel_drew bel_drewN bel_alloc bel_set bel_call size_len mk_data beq_true_i bne_true_i bne_false_i beq_false_i drop_cons var_below blk_cell blk_below blk_lt blk_alloc)
set_option linter.unusedVariables false
set_option linter.unusedSimpArgs false
set_option maxRecDepth 100000 in
set_option maxHeartbeats 4000000 in
/-- The first place at which f holds. -/
theorem search_calls (cb : Array Value) (n : Nat) (p : Nat → Bool) (w : World) (hsz : n < 4611686018427387904)
    (hf : ∀ (W : World) (i : Nat), i < n → Below w.heap.size w W → Calls Tryd.prog 115 (#[.int .i64 i] ++ cb) W fun e w' => e = .returned (.bool (p i)) ∧ Below W.heap.size W w')
    (hmono : ∀ a b, a ≤ b → b < n → p a = true → p b = true) :
    Calls Tryd.prog 114 #[.int .i64 n, .func (.func 115) #[] cb] w fun e w' => (∃ k : Nat, e = .returned (.int .i64 k) ∧ k ≤ n ∧ (∀ t, t < k → p t = false) ∧ (∀ t, k ≤ t → t < n → p t = true)) ∧ Below w.heap.size w w' := by
  have HF := Lib.hid hf
  have M := Lib.hid hmono
  clear hf hmono
  go_enter Tryd.func114, Tryd.ntmps114
  go_wp2
  go_loopw [5, 6] (fun s5 s6 wr => ∃ (lo hi : Nat), s5 = .int .i64 lo ∧ s6 = .int .i64 hi ∧ lo ≤ hi ∧ hi ≤ n ∧ Below w.heap.size w wr ∧
    Hid ((∀ t, t < lo → p t = false) ∧ (∀ t, hi ≤ t → t < n → p t = true)))
    (fun s5 s6 _ => (intOf s6 - intOf s5).toNat)
  case atStart => exact ⟨0, n, rfl, rfl, Nat.zero_le _, Nat.le_refl _, Below.refl _ _, fun t ht => absurd ht (Nat.not_lt_zero _), fun t h1 h2 => by omega⟩
  case round =>
    obtain ⟨lo, hi, rfl, rfl, hlh, hin, hbel, I⟩ := hrel
    by_cases hlt : lo < hi
    · have hc := fun W hW => HF.out W ((lo + hi) / 2) (by omega) hW
      rw [show (((lo + hi) / 2 : Nat) : Int) = ((lo : Int) + (hi : Int)) / 2 by omega] at hc
      cases hp : p ((lo + hi) / 2) <;> rw [hp] at hc
      · have HC := Lib.hid hc
        have HP := Lib.hid hp
        clear hp hc
        go_wp2_with (go_at_call 115; (with_reducible refine (HC.out _ hbel).mono ?_); rintro e w' ⟨rfl, hb2⟩)
        go_roundw
        case measure => simp [intOf]; omega
        case rel =>
          refine ⟨(lo + hi) / 2 + 1, hi, by rw [show ((lo : Int) + (hi : Int)) / 2 + 1 = (((lo + hi) / 2 + 1 : Nat) : Int) by omega], rfl, by omega, hin, bel_call hbel hb2, fun t ht => ?_, I.out.2⟩
          cases h : p t with
          | false => rfl
          | true => have := M.out t ((lo + hi) / 2) (by omega) (by omega) h; rw [HP.out] at this; cases this
      · have HC := Lib.hid hc
        have HP := Lib.hid hp
        clear hp hc
        go_wp2_with (go_at_call 115; (with_reducible refine (HC.out _ hbel).mono ?_); rintro e w' ⟨rfl, hb2⟩)
        go_roundw
        case measure => simp [intOf]; omega
        case rel =>
          exact ⟨lo, (lo + hi) / 2, rfl, by rw [show ((lo : Int) + (hi : Int)) / 2 = (((lo + hi) / 2 : Nat) : Int) by omega], by omega, by omega, bel_call hbel hb2, I.out.1, fun t ht htn => M.out ((lo + hi) / 2) t ht htn HP.out⟩
    · obtain rfl : hi = lo := by omega
      go_wp2
      go_ret
      exact ⟨⟨hi, rfl, hin, I.out.1, I.out.2⟩, hbel⟩
set_option maxRecDepth 100000 in
theorem closure_calls (ba bx blk off cap len : Nat) (y x : Int) (i : Nat) (W : World) (hi : i < len) (hi2 : 2 * i + 1 < len) (hl : len ≤ 1000000)
    (ha : W.cell? ⟨ba, 0, none⟩ = some (.slice (some ⟨blk, off, none⟩) len cap)) (hx : W.cell? ⟨bx, 0, none⟩ = some (.int .i32 x)) (hc : W.cell? ⟨blk, off + (2 * i + 1), none⟩ = some (.int .i32 y)) :
    Calls Tryd.prog 115 #[.int .i64 i, .pointer (some ⟨ba, 0, none⟩), .pointer (some ⟨bx, 0, none⟩)] W fun e w' => e = .returned (.bool (decide (x ≤ y))) ∧ Below W.heap.size W w' := by
  have hi3 : (2 * (i : Int) + 1) < (len : Int) := by omega
  have hi4 : (0 : Int) ≤ 2 * (i : Int) + 1 := by omega
  have hi5 : (2 * (i : Int) + 1).toNat = 2 * i + 1 := by omega
  go_enter Tryd.func115, Tryd.ntmps115
  have hi6 : 2 * i + 1 < len := hi2
  have q1 : decide ((2 * (i : Int) + 1) < (len : Int)) = true := by rw [decide_eq_true_iff]; omega
  go_wp2
  go_region
  go_wp2
  go_ret
  exact ⟨rfl, bel_drew (Below.refl _ _)⟩
/-- The row of a table. -/
def TRow (w : World) (blk : Nat) (t : List (Int × Int)) : Prop := ∀ j c, (flT t)[j]? = some c → w.cell? ⟨blk, 0 + j, none⟩ = some (.int .i32 c)
theorem TRow.below {w W : World} {blk : Nat} {t : List (Int × Int)} (h : TRow w blk t) (hb : Below w.heap.size w W) : TRow W blk t :=
  fun j c hj => (hb.cell (World.block_lt_of_cell? _ _ (h j c hj))).trans (h j c hj)
theorem wsearch (t : List (Int × Int)) (blk cap : Nat) (c : Int) (w : World) (ht : ascT t = true) (hl : t.length ≤ 1000) (hr : TRow w blk t) (B0 B1 : Nat)
    (h1 : w.cell? ⟨B0, 0, none⟩ = some (.slice (some ⟨blk, 0, none⟩) (2 * t.length) cap)) (h2 : w.cell? ⟨B1, 0, none⟩ = some (.int .i32 c)) :
    Calls Tryd.prog 114 #[.int .i64 t.length, .func (.func 115) #[] #[.pointer (some ⟨B0, 0, none⟩), .pointer (some ⟨B1, 0, none⟩)]] w
      fun e w' => (∃ k : Nat, e = .returned (.int .i64 k) ∧ k ≤ t.length ∧ (∀ i, i < k → hiT t c i = false) ∧ (∀ i, k ≤ i → i < t.length → hiT t c i = true)) ∧ Below w.heap.size w w' :=
  search_calls _ t.length (hiT t c) w (by omega)
    (fun W2 i hi hW2 => by
      have e := flT_hi t i
      have ei := List.getElem?_eq_getElem hi
      rw [ei] at e
      have hc := hr.below hW2 (2 * i + 1) _ e
      have h1' := (hW2.cell (World.block_lt_of_cell? _ _ h1)).trans h1
      have h2' := (hW2.cell (World.block_lt_of_cell? _ _ h2)).trans h2
      unfold hiT
      rw [ei]
      exact closure_calls _ _ blk 0 cap (2 * t.length) _ c i W2 (by omega) (by omega) (by omega) h1' h2' hc)
    (fun a b hab hb h => hiT_mono c ht a b hab hb h)
theorem two_cells (w : World) (a b : Value) (t u : TypeId) : ((w.alloc (.cells #[a] t)).alloc (.cells #[b] u)).cell? ⟨w.heap.size, 0, none⟩ = some a ∧ ((w.alloc (.cells #[a] t)).alloc (.cells #[b] u)).cell? ⟨w.heap.size + 1, 0, none⟩ = some b := by
  have h1 := blk_cell (heap_alloc_new w (.cells #[a] t)) 0
  have h2 := blk_cell (heap_alloc_new (w.alloc (.cells #[a] t)) (.cells #[b] u)) 0
  rw [Wk.size_alloc] at h2
  exact ⟨(((Below.refl _ _).alloc (Nat.le_refl _) _).cell (show w.heap.size < _ by rw [Wk.size_alloc]; omega)).trans h1, h2⟩
set_option maxRecDepth 100000 in
set_option maxHeartbeats 4000000 in
theorem within_calls (t : List (Int × Int)) (n blk cap : Nat) (c : Int) (w : World) (ht : ascT t = true) (hl : t.length ≤ 1000) (hn : n = 2 * t.length) (hr : TRow w blk t) :
    Calls Tryd.prog 104 #[.slice (some ⟨blk, 0, none⟩) n cap, .int .i32 c] w fun e w' => e = .returned (.bool (inT t c)) ∧ Below w.heap.size w w' := by
  have sc := fun (W : World) hr => wsearch t blk cap c W ht hl hr w.heap.size (w.heap.size + 1)
  rw [← hn] at sc
  obtain ⟨m, hm⟩ : ∃ m, t.length = m := ⟨_, rfl⟩
  have hdiv : (n : Int) / 2 = (m : Nat) := by omega
  rw [hm] at sc
  have SC := Lib.hid sc
  have HR := Lib.hid hr
  have HT := Lib.hid ht
  have HM := Lib.hid hm
  have HN : Hid (n = 2 * m) := (by omega : n = 2 * m)
  have hn2 : n ≤ 2000 := by omega
  have hm1 : m ≤ 1000 := by omega
  clear hr sc ht hm hn hl
  go_enter Tryd.func104, Tryd.ntmps104
  go_wp2_with (go_at_call 114; (with_reducible refine (SC.out _ (HR.out.below (bel_alloc (bel_alloc (Below.refl _ _) _) _)) (two_cells _ _ _ _ _).1 (two_cells _ _ _ _ _).2).mono ?_); rintro e w' ⟨⟨k, rfl, hk, K1, K2⟩, hb⟩)
  have hbw := bel_call (bel_alloc (bel_alloc (Below.refl _ w) (.cells #[.slice (some ⟨blk, 0, none⟩) n cap] 111)) (.cells #[.int .i32 c] 21)) hb
  obtain ⟨c0, c1⟩ := two_cells w (.slice (some ⟨blk, 0, none⟩) n cap) (.int .i32 c) 111 21
  have b0 := (hb.cell (World.block_lt_of_cell? _ _ c0)).trans c0
  have b1 := (hb.cell (World.block_lt_of_cell? _ _ c1)).trans c1
  have hin := inT_of c k HT.out (by rw [HM.out]; exact hk) K1 (by rw [HM.out]; exact K2)
  rcases Nat.lt_or_ge k m with hlt | hge
  · have e := flT_lo t k
    obtain ⟨r, hr⟩ : ∃ r, t[k]? = some r := ⟨_, List.getElem?_eq_getElem (by rw [HM.out]; exact hlt)⟩
    rw [hr] at e hin
    have ce := HR.out.below hbw (2 * k) _ e
    obtain ⟨y, hy⟩ : ∃ y, r.1 = y := ⟨_, rfl⟩
    simp only [hy, Nat.zero_add] at ce hin
    have HI := Lib.hid hin
    have hko := HN.out
    have i1 : decide ((k : Int) < (m : Int)) = true := by rw [decide_eq_true_iff]; omega
    have i1b : decide (k < m) = true := by rw [decide_eq_true_iff]; omega
    have i2 : 2 * (k : Int) < (n : Int) := by omega
    have i3 : (0 : Int) ≤ 2 * (k : Int) := by omega
    have i4 : (2 * (k : Int)).toNat = 2 * k := by omega
    have i5 : 2 * k < n := by omega
    clear hin e hr hy hko K1 K2
    go_region
    go_wp2
    go_ret
    exact ⟨by rw [HI.out]; rfl, bel_drew hbw⟩
  · have hr : t[k]? = none := List.getElem?_eq_none (by rw [HM.out]; exact hge)
    rw [hr] at hin
    simp only at hin
    have HI := Lib.hid hin
    have i1 : decide ((k : Int) < (m : Int)) = false := by rw [decide_eq_false_iff_not]; omega
    have i1b : decide (k < m) = false := by rw [decide_eq_false_iff_not]; omega
    clear hin hr K1 K2
    go_region
    go_wp2
    go_ret
    exact ⟨by rw [HI.out]; rfl, bel_drew hbw⟩
end Go.Proofs.YtoodidokjchplaaDoor.Un
