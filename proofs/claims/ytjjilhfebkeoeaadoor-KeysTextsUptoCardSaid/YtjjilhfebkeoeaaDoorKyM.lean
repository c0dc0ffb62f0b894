/- Rows of keys; a decoder's take, Feed, Flush, Held, New, Clone; Decode: walked. -/
import Derived.Test.YtjjilhfebkeoeaaDoorKyJ
import Derived.Test.YtjjilhfebkeoeaaDoorPKyx2
import Derived.Maps.AppendAt
import Derived.Laws.AppendOwn
import Derived.Test.YtjjilhfebkeoeaaDoorKyP
import Derived.Deep.DeepCutAuto
namespace Go.Proofs.YtjjilhfebkeoeaaDoor.Ky
open Go Go.RowKit Go.Proofs.YtjjilhfebkeoeaaDoor.PKy
open Go.Proofs.YtjjilhfebkeoeaaDoorW.PrintWords (bt rdOf Kd Drawn0 Reps Aside0)
open Go.Proofs.YtjjilhfebkeoeaaDoor.Wk (bcell bel_drew bel_drewN bel_alloc bel_set bel_call size_len mk_data beq_true_i bne_true_i bne_false_i beq_false_i drop_cons var_below blk_alloc blk_below blk_drewN blk_cell blk_frozen blk_far blk_set blk_lt own_slice own_below cells_new)
set_option linter.unusedVariables false
set_option linter.unusedSimpArgs false

def kcells (k : Key) : List Value := [.int .i64 k.kind, .int .i32 k.char, .bool k.ctrl, .bool k.mt, .bool k.shift, .string ⟨k.text.toArray⟩]
def kc (L : List Key) : List Value := L.flatMap kcells
def toS (k : Key) : S50 := ⟨k.kind, k.char, k.ctrl, k.mt, k.shift, ⟨k.text.toArray⟩⟩
theorem toS_inj {a b : Key} (h : toS a = toS b) : a = b := by
  cases a; cases b
  simp only [toS, S50.mk.injEq, ByteArray.mk.injEq, List.toArray_inj] at h
  simp only [Key.mk.injEq]
  exact ⟨h.1, h.2.1, h.2.2.1, h.2.2.2.1, h.2.2.2.2.1, by simpa using h.2.2.2.2.2⟩
theorem kc_len (L : List Key) : (kc L).length = L.length * 6 := by
  induction L with
  | nil => rfl
  | cons k r ih => simp only [kc, List.flatMap_cons, List.length_append, List.length_cons] at *; rw [ih]; simp [kcells]; omega
theorem kc_snoc (L : List Key) (k : Key) : kc (L ++ [k]) = kc L ++ kcells k := by simp [kc]
theorem kc_app (L M : List Key) : kc (L ++ M) = kc L ++ kc M := by simp [kc]
theorem kc_at : ∀ (L : List Key) (j : Nat) (k : Key), L[j]? = some k → ∀ i u, (kcells k)[i]? = some u → (kc L)[j * 6 + i]? = some u
  | [], j, k, h, _, _, _ => by simp at h
  | a :: r, 0, k, h, i, u, hu => by
    simp only [List.getElem?_cons_zero, Option.some.injEq] at h
    subst h
    have hi : i < (kcells a).length := (List.getElem?_eq_some_iff.mp hu).1
    simp only [kc, List.flatMap_cons, Nat.zero_mul, Nat.zero_add]
    rw [List.getElem?_append_left hi]; exact hu
  | a :: r, j + 1, k, h, i, u, hu => by
    have ih := kc_at r j k (by simpa using h) i u hu
    have e : (j + 1) * 6 + i = (kcells a).length + (j * 6 + i) := by simp [kcells]; omega
    simp only [kc, List.flatMap_cons]
    rw [e, List.getElem?_append_right (by omega)]
    simpa [kc] using ih
/-- A row of keys that is the call's own. -/
def Own (W : World) (B : Nat) (v : Value) (L : List Key) : Prop := W.ownsRow B 50 6 v L.length (kc L)
theorem own_C {W : World} {B : Nat} {v : Value} {L : List Key} (h : Own W B v L) : ∃ A c, v = .slice A L.length c ∧ L.length ≤ c ∧ Kd.C k50 W A L.length (L.map toS) := by
  rcases h.2 with ⟨rfl, h0⟩ | ⟨g, cap, cur, rfl, h1, h2, h3, h4, h5, h6⟩
  · have : L = [] := List.eq_nil_of_length_eq_zero h0
    subst this
    exact ⟨none, 0, rfl, by simp, Kd.C_nil k50 W⟩
  · refine ⟨_, cap, rfl, h3, by simp, by unfold maxLen at h4; omega, fun _ => ⟨_, rfl, fun j p hp => ?_⟩⟩
    have hc := h.cells (g := g) rfl
    rw [List.getElem?_map] at hp
    obtain ⟨k, hk, rfl⟩ := Option.map_eq_some_iff.mp hp
    exact ⟨kcells k, rfl, k50_mk W (toS k), fun i u hu => hc _ _ (kc_at L j k hk i u hu)⟩
/-- How far the loop has come. -/
structure RI (last : Bool) (l0 t : List UInt8) (L : List Key) : Prop where
  k : keysOf last l0 = L ++ keysOf last t
  h : held last l0 = held last t
theorem RI.start (last : Bool) (l : List UInt8) : RI last l l [] := ⟨rfl, rfl⟩
theorem RI.step {last : Bool} {l0 t : List UInt8} {L : List Key} (h : RI last l0 t L) {k : Key} {n : Nat} (hr : rd last t = (k, n)) (hn : n ≠ 0) : RI last l0 (t.drop n) (L ++ [k]) := by
  have hg := run_go (last := last) (l := t) (by rw [hr]; exact hn)
  rw [hr] at hg
  refine ⟨?_, ?_⟩
  · rw [h.k]; unfold keysOf; rw [hg]; simp
  · rw [h.h]; unfold held; rw [hg]
theorem RI.stop {last : Bool} {l0 t : List UInt8} {L : List Key} (h : RI last l0 t L) (hr : (rd last t).2 = 0) : keysOf last l0 = L ∧ held last l0 = t := by
  have hg := run_stop hr
  refine ⟨?_, ?_⟩
  · rw [h.k]; unfold keysOf; rw [hg]; simp
  · rw [h.h]; unfold held; rw [hg]
theorem info50 : (Tryd.prog.info? 50).map (fun i => (i.zero, i.size, i.bytes)) = some (some (.agg #[.int .i64 0, .int .i32 0, .bool false, .bool false, .bool false, .string ⟨#[]⟩]), 6, 32) := by kernel_rfl
theorem gb_set {w0 W : World} {g k : Nat} {v : Value} (h : w0.grownBy W (some g)) : w0.grownBy (W.setCell ⟨g, k, none⟩ v) (some g) :=
  ⟨h.os, h.tape, h.output, by simpa [World.setCell] using h.size, fun i hi hne => by
    rw [heap_setCell_other W ⟨g, k, none⟩ i v (fun e => hne (by rw [e]))]
    exact h.block i hi hne⟩
theorem gb_of {w w' : World} {row : Option Nat} (hb : Below w.heap.size w w') : w.grownBy w' row := ⟨hb.os, hb.tape, hb.output, hb.size, fun i hi _ => hb.block i hi⟩
theorem own_set {W : World} {B g k : Nat} {v u : Value} {L : List Key} (h : Own W B v L) (hg : g < B) : Own (W.setCell ⟨g, k, none⟩ u) B v L :=
  World.ownsRow.kept h (gb_set (World.grownBy.refl W (some g))) (.inr (fun e => by have := (h.lt g e).1; omega))
def TPost (w : World) (g : Nat) (last : Bool) (l0 : List UInt8) (e : Ending) (w' : World) : Prop :=
  ∃ v, e = .returned v ∧ Own w' w.heap.size v (keysOf last l0) ∧ w.grownBy w' (some g) ∧ w'.heap[g]? = some (.cells #[.string ⟨(held last l0).toArray⟩] 58 (0, 0))
theorem data_app (a b : ByteArray) : (a ++ b).data.toList = a.data.toList ++ b.data.toList := by simp
theorem not_empty {t : ByteArray} (h : 0 < t.size) : t.toList.isEmpty = false ∧ (!t.toList.isEmpty) = true ∧ ¬ t.toList = [] := by
  have hn : t.toList ≠ [] := by
    rw [Lib.toList_data]; intro e
    have := size_len t; rw [e] at this; simp at this; omega
  refine ⟨?_, ?_, hn⟩
  · cases h : t.toList with
    | nil => exact absurd h hn
    | cons a r => rfl
  · cases h : t.toList with
    | nil => exact absurd h hn
    | cons a r => rfl
theorem is_empty {t : ByteArray} (h : t.size = 0) : t.toList.isEmpty = true ∧ (!t.toList.isEmpty) = false ∧ t.toList = [] ∧ t.data.toList = [] := by
  have hd : t.data.toList = [] := List.eq_nil_of_length_eq_zero (by rw [size_len]; exact h)
  have hn : t.toList = [] := by rw [Lib.toList_data]; exact hd
  exact ⟨by rw [hn]; rfl, by rw [hn]; rfl, hn, hd⟩
/-- What the walk of 'take' knows of its world. -/
structure TW (w wr : World) (g : Nat) (h : ByteArray) : Prop where
  bel : Below w.heap.size w wr
  blk : wr.heap[g]? = some (.cells #[.string h] 58 (0, 0))
  lt : g < w.heap.size
theorem TW.cell {w wr : World} {g : Nat} {h : ByteArray} (H : TW w wr g h) : wr.cell? ⟨g, 0, none⟩ = some (.string h) := blk_cell H.blk 0
theorem TW.frz {w wr : World} {g : Nat} {h : ByteArray} (H : TW w wr g h) : wr.frozen? ⟨g, 0, none⟩ = false := blk_frozen H.blk 0
theorem TW.next {w wr wz : World} {g : Nat} {h : ByteArray} (H : TW w wr g h) (hb : Below wr.heap.size wr wz) : TW w wz g h := ⟨bel_call H.bel hb, blk_below H.blk hb, H.lt⟩
theorem TW.alloc {w wr : World} {g : Nat} {h : ByteArray} (H : TW w wr g h) (o : Obj) : TW w (wr.alloc o) g h := ⟨bel_alloc H.bel o, blk_alloc H.blk o, H.lt⟩
theorem TW.grown {w wr wz : World} {g : Nat} {h : ByteArray} {v : Value} {L : List Key} (H : TW w wr g h) (hg : wr.grownBy wz v.ownBlock) (ho : Own wr w.heap.size v L) : TW w wz g h :=
  ⟨H.bel.grown hg (by have := H.bel.size; omega) (fun k hk => (ho.lt k hk).1), by
    rw [hg.block g (blk_lt H.blk) (fun e => by have := (ho.lt g e.symm).1; have := H.lt; omega)]; exact H.blk, H.lt⟩
theorem TW.done {w wr : World} {g : Nat} {h x : ByteArray} {v : Value} {L : List Key} {last : Bool} {l0 t : List UInt8} (H : TW w wr g h) (ho : Own wr w.heap.size v L) (hk : keysOf last l0 = L) (hh : held last l0 = t) (hx : x.data.toList = t) {c : Nat} {A : Option Addr} (hv : v = .slice A L.length c) :
    TPost w g last l0 (.returned (.slice A L.length c)) (wr.setCell ⟨g, 0, none⟩ (.string x)) := by
  subst hv
  refine ⟨_, rfl, ?_, gb_set (gb_of H.bel), ?_⟩
  · rw [hk]; exact own_set ho H.lt
  · rw [blk_set H.blk, hh, ← hx]; rfl
set_option maxHeartbeats 4000000 in
set_option maxRecDepth 100000 in
theorem take_calls (g : Nat) (h s : ByteArray) (last : Bool) (hs : h.size + s.size ≤ 1000000000) (w : World) (hT : Tb w) (hg : w.heap[g]? = some (.cells #[.string h] 58 (0, 0))) :
    Calls Tryd.prog 34 #[.pointer (some ⟨g, 0, none⟩), .string s, .bool last] w (TPost w g last (h ++ s).data.toList) := by
  obtain ⟨i0, hi, hz0, hz1, hz2⟩ := info_parts info50
  have HT := Lib.hid hT
  have hts : (h ++ s).size ≤ 1000000000 := by simp; omega
  have hW0 : TW w w g h := ⟨Below.refl _ _, hg, blk_lt hg⟩
  have hcell := hW0.cell
  have HW0 := Lib.hid hW0
  clear hT hW0 hg
  go_enter Tryd.func34, Tryd.ntmps34
  go_wp2
  clear hcell
  go_loopw [1, 7] (fun v1 v7 wr => ∃ (t : ByteArray) (L : List Key), v1 = .string t ∧ t.size ≤ 1000000000 ∧ Hid (RI last (h ++ s).data.toList t.data.toList L) ∧ L.length + t.size ≤ 1000000000 ∧ Hid (Own wr w.heap.size v7 L) ∧ Hid (TW w wr g h)) (fun v1 _ _ => match v1 with | .string t => t.size | _ => 0)
  case atStart => exact ⟨h ++ s, [], rfl, hts, RI.start _ _, by simpa using hts, World.ownsRow_nil _ _ _ _, HW0.out⟩
  case round =>
    clear HW0
    obtain ⟨t, L, rfl, ht, hri, hlt, hown, hW⟩ := hrel
    by_cases h0 : 0 < t.size
    · obtain ⟨e1, e2, e3⟩ := not_empty h0
      obtain ⟨p, hp⟩ : ∃ p, rd last t.data.toList = p := ⟨_, rfl⟩
      have hle := rd_le last t.data.toList
      rw [hp, size_len] at hle
      have HP := Lib.hid hp
      clear hp
      obtain ⟨A, c, rfl, hc, -⟩ := own_C hown.out
      by_cases hn : p.2 = 0
      · have q : ((p.2 : Int) == 0) = true := beq_true_i (by omega)
        have HD := Lib.hid (hri.out.stop (by rw [HP.out]; exact hn))
        clear hn
        go_wp2_with (first
          | (go_at_call 36; (with_reducible refine (rd_calls t last h0 ht _ (HT.out.below hW.out.bel)).mono ?_); rintro e wz ⟨rfl, hb⟩; rw [HP.out]; have hW2 := Lib.hid ((hW.out.next hb).alloc (.cells #[.int .i64 p.1.kind, .int .i32 p.1.char, .bool p.1.ctrl, .bool p.1.mt, .bool p.1.shift, .string ⟨p.1.text.toArray⟩] 50)); have hown2 := Lib.hid (World.ownsRow.alloc (own_below hown.out hb) (.cells #[.int .i64 p.1.kind, .int .i32 p.1.char, .bool p.1.ctrl, .bool p.1.mt, .bool p.1.shift, .string ⟨p.1.text.toArray⟩] 50)); unfold knV keyV)
          | (go_at_call 49; (with_reducible refine (clone_calls t _ ht).mono ?_); rintro e wy ⟨rfl, hb3⟩; have hcell3 := (hW2.out.next hb3).cell; have hfrz3 := (hW2.out.next hb3).frz))
        go_ret
        exact (hW2.out.next hb3).done (own_below hown2.out hb3) HD.out.1 HD.out.2 rfl rfl
      · have q : ((p.2 : Int) == 0) = false := beq_false_i (by omega)
        have hpi : (p.2 : Int) ≤ t.size := by omega
        have hp0 : 0 < p.2 := by omega
        have hp0i : (0 : Int) ≤ p.2 := by omega
        have HS := Lib.hid (hri.out.step (k := p.1) (n := p.2) HP.out hn)
        have hxs : Hid ((t.extract p.2 t.size).data.toList = t.data.toList.drop p.2) := Lib.extract_to_end t p.2
        have hsz : Hid ((t.extract p.2 t.size).size = t.size - p.2) := (by simp : (t.extract p.2 t.size).size = t.size - p.2)
        clear hn
        go_wp2_with (first
          | (go_at_call 36; (with_reducible refine (rd_calls t last h0 ht _ (HT.out.below hW.out.bel)).mono ?_); rintro e wz ⟨rfl, hb⟩; rw [HP.out]; have hW2 := Lib.hid ((hW.out.next hb).alloc (.cells #[.int .i64 p.1.kind, .int .i32 p.1.char, .bool p.1.ctrl, .bool p.1.mt, .bool p.1.shift, .string ⟨p.1.text.toArray⟩] 50)); have hown2 := Lib.hid (World.ownsRow.alloc (own_below hown.out hb) (.cells #[.int .i64 p.1.kind, .int .i32 p.1.char, .bool p.1.ctrl, .bool p.1.mt, .bool p.1.shift, .string ⟨p.1.text.toArray⟩] 50)); unfold knV keyV)
          | (at_builtin; go_loud (refine wpList_append_own _ rfl _ _ 30 rfl w.heap.size 50 i0 (.agg #[.int .i64 0, .int .i32 0, .bool false, .bool false, .bool false, .string ⟨#[]⟩]) 6 32 Tryd.underlying30 hi hz0 hz1 hz2 rfl (by decide) _ _ _ rfl (World.ownsRow.alloc hown2.out _) ⟨wz.heap.size + 1, 0, none⟩ 1 1 [.int .i64 p.1.kind, .int .i32 p.1.char, .bool p.1.ctrl, .bool p.1.mt, .bool p.1.shift, .string ⟨p.1.text.toArray⟩] rfl rfl ?c1 ?c2 ?c3 ?c4 ?c5 ?_)))
        case c1 =>
          intro j u hj
          have h1 := cells_new (wz.alloc (.cells #[.int .i64 p.1.kind, .int .i32 p.1.char, .bool p.1.ctrl, .bool p.1.mt, .bool p.1.shift, .string ⟨p.1.text.toArray⟩] 50)) _ 50 j u hj
          rwa [Wk.size_alloc] at h1
        case c2 => simp [Value.oneCell']
        case c3 => unfold maxLen; omega
        case c4 => omega
        case c5 => have h1 := hW2.out.bel.size; simp at h1 ⊢; omega
        intro v' w2 hown' hgrow _
        have hW3 := Lib.hid (((hW2.out.alloc _).grown (L := L) hgrow (World.ownsRow.alloc hown2.out _)))
        have hown3 : Hid (Own w2 w.heap.size v' (L ++ [p.1])) := (by show World.ownsRow _ _ _ _ _ _ _; rw [kc_snoc, List.length_append]; exact hown' : Own w2 w.heap.size v' (L ++ [p.1]))
        clear hown' hgrow
        go_wp2
        go_roundw
        case rel => exact ⟨_, L ++ [p.1], rfl, by rw [hsz.out]; omega, by show RI _ _ _ _; rw [hxs.out]; exact HS.out, by rw [hsz.out, List.length_append]; simp; omega, hown3.out, hW3.out⟩
        case measure => have h1 := hsz.out; simp only [Array.getD]; simp [h1]; omega
    · obtain ⟨e1, e2, e3, e4⟩ := is_empty (show t.size = 0 by omega)
      have HD := Lib.hid (hri.out.stop (by rw [e4]; rfl))
      obtain ⟨A, c, rfl, hc, -⟩ := own_C hown.out
      have hcell := hW.out.cell
      have hfrz := hW.out.frz
      replace e4 := Lib.hid e4
      go_wp2_with (go_at_call 49; (with_reducible refine (clone_calls t _ ht).mono ?_); rintro e wy ⟨rfl, hb3⟩; have hcell3 := (hW.out.next hb3).cell; have hfrz3 := (hW.out.next hb3).frz)
      go_ret
      exact (hW.out.next hb3).done (own_below hown.out hb3) HD.out.1 HD.out.2 rfl rfl
end Go.Proofs.YtjjilhfebkeoeaaDoor.Ky
/- A decoder's New, Feed, Flush, Held, Clone; Decode, Split: walked. -/
namespace Go.Proofs.YtjjilhfebkeoeaaDoor.Ky
open Go Go.RowKit Go.Proofs.YtjjilhfebkeoeaaDoor.PKy
open Go.Proofs.YtjjilhfebkeoeaaDoorW.PrintWords (bt rdOf Kd Drawn0 Reps Aside0)
open Go.Proofs.YtjjilhfebkeoeaaDoor.Wk (bcell bel_drew bel_drewN bel_alloc bel_set bel_call size_len mk_data beq_true_i bne_true_i bne_false_i beq_false_i drop_cons var_below blk_alloc blk_below blk_drewN blk_cell blk_frozen blk_far blk_set blk_lt own_slice own_below cells_new)
set_option linter.unusedVariables false
set_option linter.unusedSimpArgs false


theorem new_calls (w : World) : Calls Tryd.prog 19 #[] w fun e w' => e = .returned (.pointer (some ⟨w.heap.size, 0, none⟩)) ∧ w' = w.alloc (.cells #[.string ⟨#[]⟩] 58) := by
  go_enter Tryd.func19, Tryd.ntmps19
  go_wp2
  go_ret
  exact ⟨rfl, rfl⟩
theorem feed_calls (g : Nat) (h s : ByteArray) (hs : h.size + s.size ≤ 1000000000) (w : World) (hT : Tb w) (hg : w.heap[g]? = some (.cells #[.string h] 58 (0, 0))) :
    Calls Tryd.prog 20 #[.pointer (some ⟨g, 0, none⟩), .string s] w (TPost w g false (h ++ s).data.toList) := by
  have HT := Lib.hid hT
  have HG := Lib.hid hg
  clear hT hg
  go_enter Tryd.func20, Tryd.ntmps20
  go_wp2_with (go_at_call 34; (with_reducible refine (take_calls g h s false hs _ HT.out HG.out).mono ?_); rintro e w' ⟨v, rfl, ho, hgr, hb⟩)
  go_ret
  exact ⟨v, rfl, ho, hgr, hb⟩
theorem feed_nil (s : ByteArray) (w : World) : Calls Tryd.prog 20 #[.pointer none, .string s] w fun e w' => e = .returned (.slice none 0 0) ∧ w' = w := by
  go_enter Tryd.func20, Tryd.ntmps20
  go_wp2
  go_ret
  exact ⟨rfl, rfl⟩
theorem app_nil (h : ByteArray) : (h ++ (⟨#[]⟩ : ByteArray)).data.toList = h.data.toList := by rw [data_app]; simp
theorem flush_calls (g : Nat) (h : ByteArray) (hs : h.size ≤ 1000000000) (w : World) (hT : Tb w) (hg : w.heap[g]? = some (.cells #[.string h] 58 (0, 0))) :
    Calls Tryd.prog 21 #[.pointer (some ⟨g, 0, none⟩)] w (TPost w g true h.data.toList) := by
  have HT := Lib.hid hT
  have HG := Lib.hid hg
  have hs' : h.size + (⟨#[]⟩ : ByteArray).size ≤ 1000000000 := by have : (⟨#[]⟩ : ByteArray).size = 0 := rfl; omega
  clear hT hg
  go_enter Tryd.func21, Tryd.ntmps21
  go_wp2_with (go_at_call 34; (with_reducible refine (take_calls g h ⟨#[]⟩ true hs' _ HT.out HG.out).mono ?_); rintro e w' ⟨v, rfl, ho, hgr, hb⟩)
  go_ret
  rw [app_nil] at ho hb
  exact ⟨v, rfl, ho, hgr, hb⟩
theorem flush_nil (w : World) : Calls Tryd.prog 21 #[.pointer none] w fun e w' => e = .returned (.slice none 0 0) ∧ w' = w := by
  go_enter Tryd.func21, Tryd.ntmps21
  go_wp2
  go_ret
  exact ⟨rfl, rfl⟩
theorem held_calls (g : Nat) (h : ByteArray) (w : World) (hg : w.heap[g]? = some (.cells #[.string h] 58 (0, 0))) : Calls Tryd.prog 22 #[.pointer (some ⟨g, 0, none⟩)] w fun e w' => e = .returned (.string h) ∧ w' = w := by
  have hc := blk_cell hg 0
  simp only [List.getElem?_toArray, List.getElem?_cons_zero] at hc
  clear hg
  go_enter Tryd.func22, Tryd.ntmps22
  go_wp2
  go_ret
  exact ⟨rfl, rfl⟩
theorem held_nil (w : World) : Calls Tryd.prog 22 #[.pointer none] w fun e w' => e = .returned (.string ⟨#[]⟩) ∧ w' = w := by
  go_enter Tryd.func22, Tryd.ntmps22
  go_wp2
  go_ret
  exact ⟨rfl, rfl⟩
theorem clone_dec (g : Nat) (h : ByteArray) (w : World) (hg : w.heap[g]? = some (.cells #[.string h] 58 (0, 0))) : Calls Tryd.prog 26 #[.pointer (some ⟨g, 0, none⟩)] w fun e w' => e = .returned (.pointer (some ⟨w.heap.size, 0, none⟩)) ∧ w' = w.alloc (.cells #[.string h] 58) := by
  have hc := blk_cell hg 0
  simp only [List.getElem?_toArray, List.getElem?_cons_zero] at hc
  clear hg
  go_enter Tryd.func26, Tryd.ntmps26
  go_wp2
  go_ret
  exact ⟨rfl, rfl⟩
theorem clone_nil (w : World) : Calls Tryd.prog 26 #[.pointer none] w fun e w' => e = .returned (.pointer none) ∧ w' = w := by
  go_enter Tryd.func26, Tryd.ntmps26
  go_wp2
  go_ret
  exact ⟨rfl, rfl⟩
theorem own_base {W : World} {B B' : Nat} {v : Value} {L : List Key} (h : Own W B v L) (hb : B' ≤ B) : Own W B' v L := by
  refine ⟨h.1, ?_⟩
  rcases h.2 with h2 | ⟨g, cap, cur, h1, h2, h3⟩
  · exact .inl h2
  · exact .inr ⟨g, cap, cur, h1, by omega, h3⟩
theorem nil_app (s : ByteArray) : ((⟨#[]⟩ : ByteArray) ++ s).data.toList = s.data.toList := by rw [data_app]; simp
def DPost (w : World) (L : List Key) (e : Ending) (w' : World) : Prop := ∃ v, e = .returned v ∧ Own w' w.heap.size v L ∧ Below w.heap.size w w'
theorem bel_gb {w w1 w' : World} {g : Nat} (h : Below w.heap.size w w1) (hg : w1.grownBy w' (some g)) (hge : w.heap.size ≤ g) : Below w.heap.size w w' := h.grown hg h.size (fun k hk => by cases hk; exact hge)
theorem decode_all (s : ByteArray) (hs : s.size ≤ 1000000000) (w : World) (hT : Tb w) : Calls Tryd.prog 14 #[.string s] w (DPost w (keysOf true s.data.toList)) := by
  have HT := Lib.hid hT
  have hs' : (⟨#[]⟩ : ByteArray).size + s.size ≤ 1000000000 := by have : (⟨#[]⟩ : ByteArray).size = 0 := rfl; omega
  clear hT
  go_enter Tryd.func14, Tryd.ntmps14
  go_wp2_with (first
    | (go_at_call 19; (with_reducible refine (new_calls _).mono ?_); rintro e wz ⟨rfl, rfl⟩)
    | (go_at_call 34; (with_reducible refine (take_calls _ ⟨#[]⟩ s true hs' _ (HT.out.below (bel_a _ _)) (heap_alloc_new w _)).mono ?_); rintro e w' ⟨v, rfl, ho, hgr, hb⟩))
  go_ret
  rw [nil_app] at ho
  exact ⟨v, rfl, own_base ho (by rw [Wk.size_alloc]; omega), bel_gb (bel_a _ _) hgr (Nat.le_refl _)⟩

/-! Split -/
def ByteS (l : List UInt8) : ByteArray := ⟨l.toArray⟩
def sc (L : List (List UInt8)) : List Value := L.map fun l => .string (ByteS l)
def OwnS (W : World) (B : Nat) (v : Value) (L : List (List UInt8)) : Prop := W.ownsRow B 9 1 v L.length (sc L)
theorem ownS_C {W : World} {B : Nat} {v : Value} {L : List (List UInt8)} (h : OwnS W B v L) : ∃ A c, v = .slice A L.length c ∧ L.length ≤ c ∧ Kd.C Kd.string W A L.length (L.map ByteS) := by
  rcases h.2 with ⟨rfl, h0⟩ | ⟨g, cap, cur, rfl, h1, h2, h3, h4, h5, h6⟩
  · have : L = [] := List.eq_nil_of_length_eq_zero h0
    subst this
    exact ⟨none, 0, rfl, by simp, Kd.C_nil Kd.string W⟩
  · refine ⟨_, cap, rfl, h3, by simp, by unfold maxLen at h4; omega, fun _ => ⟨_, rfl, fun j p hp => ?_⟩⟩
    have hc := h.cells (g := g) rfl
    rw [List.getElem?_map] at hp
    obtain ⟨k, hk, rfl⟩ := Option.map_eq_some_iff.mp hp
    refine ⟨[.string (ByteS k)], rfl, rfl, fun i u hu => ?_⟩
    match i, hu with
    | 0, hu =>
      simp only [List.getElem?_cons_zero, Option.some.injEq] at hu
      subst hu
      have : (sc L)[j]? = some (.string (ByteS k)) := by unfold sc; rw [List.getElem?_map, hk]; rfl
      have e : j * (Kd.string).sz + 0 = j := by show j * 1 + 0 = j; omega
      rw [e]; exact hc _ _ this
    | i + 1, hu => simp at hu
structure RJ (l0 t : List UInt8) (L : List (List UInt8)) : Prop where
  k : piecesOf true l0 = L ++ piecesOf true t
theorem RJ.start (l : List UInt8) : RJ l l [] := ⟨rfl⟩
theorem RJ.step {l0 t : List UInt8} {L : List (List UInt8)} (h : RJ l0 t L) {n : Nat} (hr : (rd true t).2 = n) (hn : n ≠ 0) : RJ l0 (t.drop n) (L ++ [t.take n]) := by
  have hg := run_go (last := true) (l := t) (by rw [hr]; exact hn)
  rw [hr] at hg
  refine ⟨?_⟩
  rw [h.k]; unfold piecesOf; rw [hg]; simp
theorem RJ.stop {l0 : List UInt8} {L : List (List UInt8)} (h : RJ l0 [] L) : piecesOf true l0 = L := by
  rw [h.k]; unfold piecesOf; rw [run_stop rfl]; simp
def SPost (w : World) (L : List (List UInt8)) (e : Ending) (w' : World) : Prop := ∃ v, e = .returned v ∧ OwnS w' w.heap.size v L ∧ Below w.heap.size w w'
theorem info9 : (Tryd.prog.info? 9).map (fun i => (i.zero, i.size, i.bytes)) = some (some (.string ⟨#[]⟩), 1, 16) := by kernel_rfl
set_option maxHeartbeats 4000000 in
set_option maxRecDepth 100000 in
theorem split_calls (s : ByteArray) (hs : s.size ≤ 1000000000) (w : World) (hT : Tb w) : Calls Tryd.prog 23 #[.string s] w (SPost w (piecesOf true s.data.toList)) := by
  obtain ⟨i0, hi, hz0, hz1, hz2⟩ := info_parts info9
  have HT := Lib.hid hT
  clear hT
  go_enter Tryd.func23, Tryd.ntmps23
  go_wp2
  go_loopw [0, 3] (fun v0 v3 wr => ∃ (t : ByteArray) (L : List (List UInt8)), v0 = .string t ∧ t.size ≤ 1000000000 ∧ Hid (RJ s.data.toList t.data.toList L) ∧ L.length + t.size ≤ 1000000000 ∧ Hid (OwnS wr w.heap.size v3 L) ∧ Hid (Below w.heap.size w wr)) (fun v0 _ _ => match v0 with | .string t => t.size | _ => 0)
  case atStart => exact ⟨s, [], rfl, hs, RJ.start _, by simpa using hs, World.ownsRow_nil _ _ _ _, Below.refl _ _⟩
  case round =>
    obtain ⟨t, L, rfl, ht, hri, hlt, hown, hW⟩ := hrel
    obtain ⟨A, c, rfl, hc, -⟩ := ownS_C hown.out
    by_cases h0 : 0 < t.size
    · obtain ⟨e1, e2, e3⟩ := not_empty h0
      obtain ⟨p, hp⟩ : ∃ p, rd true t.data.toList = p := ⟨_, rfl⟩
      have hle := rd_le true t.data.toList
      have hps := rd_pos t.data.toList (fun e => by have := size_len t; rw [e] at this; simp at this; omega)
      rw [hp] at hle hps
      rw [size_len] at hle
      have HP := Lib.hid hp
      have hpi : (p.2 : Int) ≤ t.size := by omega
      have hp0 : 0 < p.2 := by omega
      have hp0i : (0 : Int) ≤ p.2 := by omega
      have HS := Lib.hid (hri.out.step (n := p.2) (by rw [hp]) hps)
      have hxs : Hid ((t.extract p.2 t.size).data.toList = t.data.toList.drop p.2) := Lib.extract_to_end t p.2
      have hys : Hid (t.extract 0 p.2 = ByteS (t.data.toList.take p.2)) := (by unfold ByteS; rw [← take_ext, Lib.mk_data] : t.extract 0 p.2 = ByteS (t.data.toList.take p.2))
      have hsz : Hid ((t.extract p.2 t.size).size = t.size - p.2) := (by simp : (t.extract p.2 t.size).size = t.size - p.2)
      clear hp hps
      go_wp2_with (first
        | (go_at_call 36; (with_reducible refine (rd_calls t true h0 ht _ (HT.out.below hW.out)).mono ?_); rintro e wz ⟨rfl, hb⟩; rw [HP.out]; have hW2 := Lib.hid (bel_alloc (bel_call hW.out hb) (.cells #[.int .i64 p.1.kind, .int .i32 p.1.char, .bool p.1.ctrl, .bool p.1.mt, .bool p.1.shift, .string ⟨p.1.text.toArray⟩] 50)); have hown2 := Lib.hid (World.ownsRow.alloc (own_below hown.out hb) (.cells #[.int .i64 p.1.kind, .int .i32 p.1.char, .bool p.1.ctrl, .bool p.1.mt, .bool p.1.shift, .string ⟨p.1.text.toArray⟩] 50)); unfold knV keyV)
        | (at_builtin; go_loud (refine wpList_append_own _ rfl _ _ 38 rfl w.heap.size 9 i0 (.string ⟨#[]⟩) 1 16 Tryd.underlying38 hi hz0 hz1 hz2 rfl (by decide) _ _ _ rfl (World.ownsRow.alloc hown2.out _) ⟨wz.heap.size + 1, 0, none⟩ 1 1 [.string (t.extract 0 p.2)] rfl rfl ?c1 ?c2 ?c3 ?c4 ?c5 ?_)))
      case c1 =>
        intro j u hj
        have h1 := cells_new (wz.alloc (.cells #[.int .i64 p.1.kind, .int .i32 p.1.char, .bool p.1.ctrl, .bool p.1.mt, .bool p.1.shift, .string ⟨p.1.text.toArray⟩] 50)) _ 9 j u hj
        rwa [Wk.size_alloc] at h1
      case c2 => simp [Value.oneCell']
      case c3 => unfold maxLen; omega
      case c4 => omega
      case c5 => have h1 := hW2.out.size; simp at h1 ⊢; omega
      intro v' w2 hown' hgrow _
      have hW3 : Hid (Below w.heap.size w w2) := (bel_alloc hW2.out _).grown hgrow (by have h1 := hW2.out.size; simp at h1 ⊢; omega) (fun k hk => (hown2.out.lt k hk).1)
      have hown3 : Hid (OwnS w2 w.heap.size v' (L ++ [t.data.toList.take p.2])) := (by
        show World.ownsRow _ _ _ _ _ _ _
        rw [List.length_append, show sc (L ++ [t.data.toList.take p.2]) = sc L ++ [.string (t.extract 0 p.2)] from by rw [hys.out]; simp [sc]]
        exact hown' : OwnS w2 w.heap.size v' (L ++ [t.data.toList.take p.2]))
      clear hown' hgrow
      go_wp2
      go_roundw
      case rel => exact ⟨_, L ++ [t.data.toList.take p.2], rfl, by rw [hsz.out]; omega, by show RJ _ _ _; rw [hxs.out]; exact HS.out, by rw [hsz.out, List.length_append]; simp; omega, hown3.out, hW3.out⟩
      case measure => have h1 := hsz.out; simp only [Array.getD]; simp [h1]; omega
    · obtain ⟨e1, e2, e3, e4⟩ := is_empty (show t.size = 0 by omega)
      have HD := Lib.hid ((e4 ▸ hri.out : RJ s.data.toList [] L).stop)
      replace e4 := Lib.hid e4
      go_wp2
      go_ret
      refine ⟨_, rfl, ?_, hW.out⟩
      rw [HD.out]; exact hown.out
end Go.Proofs.YtjjilhfebkeoeaaDoor.Ky
/- control, Encode, sequence: walked. -/
namespace Go.Proofs.YtjjilhfebkeoeaaDoor.Ky
open Go Go.RowKit Go.Proofs.YtjjilhfebkeoeaaDoor.PKy
open Go.Proofs.YtjjilhfebkeoeaaDoorW.PrintWords (bt rdOf Kd Drawn0 Reps Aside0)
open Go.Proofs.YtjjilhfebkeoeaaDoor.Wk (string_of_own bcell bel_drew bel_drewN bel_alloc bel_set bel_call size_len mk_data beq_true_i bne_true_i bne_false_i beq_false_i drop_cons var_below blk_alloc blk_below blk_drewN blk_cell blk_frozen blk_far blk_set blk_lt own_slice own_below cells_new)
set_option linter.unusedVariables false
set_option linter.unusedSimpArgs false


theorem ret_s {a : ByteArray} {l : List UInt8} (h : a.data.toList = l) : Ending.returned (.string a) = .returned (.string ⟨l.toArray⟩) := by rw [← h]
theorem enc_small {c : Int} (h0 : 0 ≤ c) (h : c < 128) : (Utf8.encode c).data.toList = [UInt8.ofNat c.toNat] := by
  unfold Utf8.encode
  have hv : Utf8.valid c = true := by unfold Utf8.valid; (first | (simp; done) | (simp; omega))
  simp only [hv, if_true]
  rw [if_pos (by omega)]
theorem control_calls (c : Int) (w : World) : Calls Tryd.prog 38 #[.int .i32 c] w fun e w' => e = .returned (.string ⟨(ctl c).toArray⟩) ∧ w' = w := by
  by_cases h1 : c = 63
  · have q : (c == 63) = true := beq_true_i h1
    have H : Hid (ctl c = [127]) := (by unfold ctl; rw [if_pos h1] : ctl c = [127])
    clear h1
    go_enter Tryd.func38, Tryd.ntmps38
    go_wp2
    go_ret
    exact ⟨ret_s H.out.symm, rfl⟩
  have q : (c == 63) = false := beq_false_i h1
  by_cases h2 : 64 ≤ c
  · by_cases h3 : c < 96
    · have q2 : decide (64 ≤ c) = true := by rw [decide_eq_true_eq]; omega
      have q3 : decide (c < 96) = true := by rw [decide_eq_true_eq]; omega
      have H : Hid (ctl c = [UInt8.ofNat (c - 64).toNat]) := (by unfold ctl; rw [if_neg h1, if_pos ⟨h2, h3⟩] : ctl c = [UInt8.ofNat (c - 64).toNat])
      clear h1
      go_enter Tryd.func38, Tryd.ntmps38
      go_wp2
      go_ret
      exact ⟨ret_s ((enc_small (by omega) (by omega)).trans H.out.symm), rfl⟩
    · have q2 : decide (64 ≤ c) = true := by rw [decide_eq_true_eq]; omega
      have q3 : decide (c < 96) = false := by rw [decide_eq_false_iff_not]; omega
      have H : Hid (ctl c = []) := (by unfold ctl; rw [if_neg h1, if_neg (by omega)] : ctl c = [])
      clear h1
      go_enter Tryd.func38, Tryd.ntmps38
      go_wp2
      go_ret
      exact ⟨ret_s H.out.symm, rfl⟩
  · have q2 : decide (64 ≤ c) = false := by rw [decide_eq_false_iff_not]; omega
    have H : Hid (ctl c = []) := (by unfold ctl; rw [if_neg h1, if_neg (by omega)] : ctl c = [])
    clear h1
    go_enter Tryd.func38, Tryd.ntmps38
    go_wp2
    go_ret
    exact ⟨ret_s H.out.symm, rfl⟩
theorem runeCells_enc (r : Int) : Lib.runeCells r = Lib.byteCells (Lib.encodeRune r) := (Lib.byteCells_encodeRune r).symm
theorem one_int (w : World) (c : Int) (g : Nat) (h : w.heap[g]? = some (.cells #[.int .i32 c] 21 (0, 0))) : w.cell? ⟨g, 0, none⟩ = some (.int .i32 c) := blk_cell h 0
set_option maxHeartbeats 1000000 in
set_option maxRecDepth 100000 in
/-- Encode of one number, in a row of one cell. -/
theorem encode_calls (c : Int) (h0 : -2147483648 ≤ c) (h1 : c ≤ 2147483647) (g n : Nat) (hn : 1 ≤ n) (w : World) (hg : w.heap[g]? = some (.cells #[.int .i32 c] 21 (0, 0))) :
    Calls Tryd.prog 37 #[.slice (some ⟨g, 0, none⟩) 1 n] w fun e w' => e = .returned (.string ⟨(encL c).toArray⟩) ∧ Below w.heap.size w w' := by
  have hc := one_int w c g hg
  clear hg
  cases hv : Lib.validRune c
  · have H : Hid (encL c = []) := (by unfold encL; rw [hv]; rfl : encL c = [])
    have HV := Lib.hid hv
    clear hv
    go_enter Tryd.func37, Tryd.ntmps37
    go_wp2
    go_loop [3, 8] (fun v3 v8 => ∃ k : Nat, v8 = .int .i64 k ∧ k ≤ 1 ∧ v3 = .slice none 0 0) (fun _ v8 => 1 - (intOf v8).toNat)
    case atStart => exact ⟨0, rfl, by omega, rfl⟩
    case round =>
      obtain ⟨k, rfl, hk, rfl⟩ := hrel
      by_cases hlt : k < 1
      · obtain rfl : k = 0 := by omega
        go_wp2_with (go_at_call 55; (with_reducible refine (Tryd.utf8_ValidRune c _).mono ?_); rintro e wz ⟨rfl, hww⟩; subst hww; rw [HV.out])
        go_round
        case rel => exact ⟨1, rfl, by omega, rfl⟩
        case measure => simp [intOf]
      · have hcv := string_of_own (P := Tryd.prog) (src := 89) (dst := 9) (W := w) (B := 0) (e := 5) (n := 0) (v := .slice none 0 0) (o := []) Tryd.underlying89 Tryd.underlying5 Tryd.underlying9 (World.ownsRow_nil w 0 5 1)
        go_wp2
        go_ret
        exact ⟨ret_s H.out.symm, Below.refl _ _⟩
  · have H : Hid (encL c = Lib.encodeRune c) := (by unfold encL; rw [if_pos hv] : encL c = Lib.encodeRune c)
    have HV := Lib.hid hv
    clear hv
    go_enter Tryd.func37, Tryd.ntmps37
    go_wp2
    go_loopw [3, 8] (fun v3 v8 wr => ∃ k : Nat, v8 = .int .i64 k ∧ ((k = 0 ∧ v3 = .slice none 0 0 ∧ wr = w) ∨ (k = 1 ∧ Hid (wr.ownsRow w.heap.size 5 1 v3 (Lib.encodeRune c).length (Lib.byteCells (Lib.encodeRune c)) ∧ Below w.heap.size w wr)))) (fun _ v8 _ => 1 - (intOf v8).toNat)
    case atStart => exact ⟨0, rfl, .inl ⟨rfl, rfl, rfl⟩⟩
    case round =>
      obtain ⟨k, rfl, hk⟩ := hrel
      rcases hk with ⟨rfl, rfl, rfl⟩ | ⟨rfl, hk⟩
      · go_wp2_with (first
          | (go_at_call 55; (with_reducible refine (Tryd.utf8_ValidRune c _).mono ?_); rintro e wz ⟨rfl, hww⟩; subst hww; rw [HV.out])
          | (go_at_call 56; (with_reducible refine (Tryd.utf8_AppendRune_plain _ (.slice none 0 0) 0 [] c h0 h1 _ (World.ownsRow_nil _ _ _ _) (by decide) (Nat.le_refl _)).mono ?_); rintro e w2 ⟨v', rfl, ho, ob, hgr⟩))
        go_roundw
        case rel =>
          refine ⟨1, rfl, .inr ⟨rfl, ?_, ?_⟩⟩
          · rw [runeCells_enc, Nat.zero_add, List.nil_append, Lib.byteCells_length] at ho; exact ho
          · exact (bel_a _ ob).grown hgr (by simp) (fun k hk => by simp [Value.ownBlock] at hk)
        case measure => simp [intOf]
      · obtain ⟨A, cp, hv'⟩ := own_slice hk.out.1
        subst hv'
        have hcv := string_of_own (P := Tryd.prog) (src := 89) (dst := 9) Tryd.underlying89 Tryd.underlying5 Tryd.underlying9 hk.out.1
        go_wp2
        go_ret
        exact ⟨ret_s H.out.symm, hk.out.2⟩

/-! sequence -/
theorem enc_byte {b : Nat} (h : b < 128) : (Utf8.encode (b : Int)).data.toList = [UInt8.ofNat b] := by rw [enc_small (by omega) (by omega), Int.toNat_natCast]
theorem itoa_calls (n : Nat) (hn : n < 100) (w : World) : Calls Tryd.prog 41 #[.int .i64 n] w fun e w' => e = .returned (.string ⟨(Lib.decDigits n).toArray⟩) ∧ w' = w := Tryd.strconv_Itoa_small n hn w
end Go.Proofs.YtjjilhfebkeoeaaDoor.Ky
