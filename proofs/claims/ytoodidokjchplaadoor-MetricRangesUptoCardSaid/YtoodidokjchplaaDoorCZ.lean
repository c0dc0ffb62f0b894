/- metric.pair, Join: walked. -/
import Derived.Test.YtoodidokjchplaaDoorFA
namespace Go.Proofs.YtoodidokjchplaaDoor.Un
open Go Go.RowKit Go.Shelf
open Go.Proofs.YtoodidokjchplaaDoor.Wk (bcell bel_drew bel_drewN bel_alloc bel_set bel_call size_len blk_cell blk_below blk_lt mk_data)
set_option linter.unusedVariables false
set_option linter.unusedSimpArgs false
/-- A summary's value, and a summary in a box, all by letters. -/
def smR (b u c x n : Int) (h t : ByteArray) : Value := .agg #[.int .i64 b, .int .i64 u, .int .i64 c, .int .i64 x, .int .i64 n, .string h, .string t]
def BxR (W : World) (g : Nat) (b u c x n : Int) (h t : ByteArray) : Prop := W.heap[g]? = some (.cells #[.int .i64 b, .int .i64 u, .int .i64 c, .int .i64 x, .int .i64 n, .string h, .string t] 26 (0, 0))
theorem three_sm (w : World) (mb mu mc mx mn pb pu pc px pn : Int) (mh mt ph pt : ByteArray) : ∃ W, W = (((w.alloc (.cells #[.int .i64 mb, .int .i64 mu, .int .i64 mc, .int .i64 mx, .int .i64 mn, .string mh, .string mt] 26)).alloc (.cells #[.int .i64 pb, .int .i64 pu, .int .i64 pc, .int .i64 px, .int .i64 pn, .string ph, .string pt] 26)).alloc (.cells #[.int .i64 0, .int .i64 0, .int .i64 0, .int .i64 0, .int .i64 0, .string ⟨#[]⟩, .string ⟨#[]⟩] 26)) ∧
    BxR W w.heap.size mb mu mc mx mn mh mt ∧ BxR W (w.heap.size + 1) pb pu pc px pn ph pt ∧ BxR W (w.heap.size + 1 + 1) 0 0 0 0 0 ⟨#[]⟩ ⟨#[]⟩ ∧ Below w.heap.size w W ∧ W.heap.size = w.heap.size + 3 := by
  have h1 := heap_alloc_new w (.cells #[.int .i64 mb, .int .i64 mu, .int .i64 mc, .int .i64 mx, .int .i64 mn, .string mh, .string mt] 26)
  have h2 := heap_alloc_new (w.alloc (.cells #[.int .i64 mb, .int .i64 mu, .int .i64 mc, .int .i64 mx, .int .i64 mn, .string mh, .string mt] 26)) (.cells #[.int .i64 pb, .int .i64 pu, .int .i64 pc, .int .i64 px, .int .i64 pn, .string ph, .string pt] 26)
  have h3 := heap_alloc_new ((w.alloc (.cells #[.int .i64 mb, .int .i64 mu, .int .i64 mc, .int .i64 mx, .int .i64 mn, .string mh, .string mt] 26)).alloc (.cells #[.int .i64 pb, .int .i64 pu, .int .i64 pc, .int .i64 px, .int .i64 pn, .string ph, .string pt] 26)) (.cells #[.int .i64 0, .int .i64 0, .int .i64 0, .int .i64 0, .int .i64 0, .string ⟨#[]⟩, .string ⟨#[]⟩] 26)
  rw [Wk.size_alloc] at h2 h3
  rw [Wk.size_alloc] at h3
  exact ⟨_, rfl, Wk.blk_alloc (Wk.blk_alloc h1 _) _, Wk.blk_alloc h2 _, h3, bel_alloc (bel_alloc (bel_alloc (Below.refl _ _) _) _) _, by rw [Wk.size_alloc, Wk.size_alloc, Wk.size_alloc]⟩
theorem BxR.cs {W : World} {g : Nat} {b u c x n : Int} {h t : ByteArray} (H : BxR W g b u c x n h t) : W.cell? ⟨g, 0, none⟩ = some (.int .i64 b) ∧ W.cell? ⟨g, 1, none⟩ = some (.int .i64 u) ∧ W.cell? ⟨g, 2, none⟩ = some (.int .i64 c) ∧ W.cell? ⟨g, 3, none⟩ = some (.int .i64 x) ∧ W.cell? ⟨g, 4, none⟩ = some (.int .i64 n) ∧ W.cell? ⟨g, 5, none⟩ = some (.string h) ∧ W.cell? ⟨g, 6, none⟩ = some (.string t) := by
  unfold BxR at H
  exact ⟨blk_cell H 0, blk_cell H 1, blk_cell H 2, blk_cell H 3, blk_cell H 4, blk_cell H 5, blk_cell H 6⟩
structure PI (w : World) (A0 A M : Nat) (mb mu mc mx mn : Int) (mh mt : ByteArray) (pb pu pc px pn : Int) (ph pt : ByteArray) (g : Option Nat) (W : World) : Prop where
  ha : BxR W A0 mb mu mc mx mn mh mt
  hb : BxR W A pb pu pc px pn ph pt
  hm : BxR W M 0 0 0 0 0 ⟨#[]⟩ ⟨#[]⟩
  bel : Below w.heap.size w W
  al : ∀ G, g = some G → (∃ b u c x n h t, BxR W G b u c x n h t) ∧ A0 < G ∧ A < G ∧ M < G ∧ w.heap.size ≤ G
theorem PI.call {w W W' : World} {A0 A M : Nat} {mb mu mc mx mn : Int} {mh mt : ByteArray} {pb pu pc px pn : Int} {ph pt : ByteArray} {g : Option Nat} (h : PI w A0 A M mb mu mc mx mn mh mt pb pu pc px pn ph pt g W) (hB : Below W.heap.size W W') :
    PI w A0 A M mb mu mc mx mn mh mt pb pu pc px pn ph pt g W' :=
  ⟨blk_below h.ha hB, blk_below h.hb hB, blk_below h.hm hB, bel_call h.bel hB, fun G hG => by
    obtain ⟨⟨b, u, c, x, n, hh, t, q⟩, r⟩ := h.al G hG
    exact ⟨⟨b, u, c, x, n, hh, t, blk_below q hB⟩, r⟩⟩
theorem PI.alloc {w W : World} {A0 A M : Nat} {mb mu mc mx mn : Int} {mh mt : ByteArray} {pb pu pc px pn : Int} {ph pt : ByteArray} (h : PI w A0 A M mb mu mc mx mn mh mt pb pu pc px pn ph pt none W) :
    PI w A0 A M mb mu mc mx mn mh mt pb pu pc px pn ph pt (some W.heap.size) (W.alloc (.cells #[.int .i64 0, .int .i64 0, .int .i64 0, .int .i64 0, .int .i64 0, .string ⟨#[]⟩, .string ⟨#[]⟩] 26)) :=
  ⟨Wk.blk_alloc h.ha _, Wk.blk_alloc h.hb _, Wk.blk_alloc h.hm _, bel_alloc h.bel _, fun G hG => by
    cases hG
    exact ⟨⟨_, _, _, _, _, _, _, heap_alloc_new _ _⟩, blk_lt h.ha, blk_lt h.hb, blk_lt h.hm, h.bel.size⟩⟩
def hdR (mh ph : ByteArray) : ByteArray := if mh.size < 16 then ⟨(hd (mh ++ ph).data.toList).toArray⟩ else mh
def tlR (mt pt : ByteArray) : ByteArray := if pt.size < 16 then ⟨(tl (mt ++ pt).data.toList).toArray⟩ else pt
structure PJ (w : World) (A0 A M G : Nat) (mb mu mc mx mn : Int) (mh mt : ByteArray) (pb pu pc px pn : Int) (ph pt : ByteArray) (rb ru rc rx rn : Int) (rh rt : ByteArray) (W : World) : Prop where
  ha : BxR W A0 mb mu mc mx mn mh mt
  hb : BxR W A pb pu pc px pn ph pt
  hm : BxR W M 0 0 0 0 0 ⟨#[]⟩ ⟨#[]⟩
  hg : BxR W G rb ru rc rx rn rh rt
  bel : Below w.heap.size w W
  lt : A0 < G ∧ A < G ∧ M < G ∧ w.heap.size ≤ G ∧ w.heap.size ≤ M
theorem far7 {W : World} {R G : Nat} {ob : Obj} {a0 a1 a2 a3 a4 a5 a6 : Value} (h : W.heap[R]? = some ob) (hne : R ≠ G) :
    (((((((W.setCell ⟨G, 0, none⟩ a0).setCell ⟨G, 1, none⟩ a1).setCell ⟨G, 2, none⟩ a2).setCell ⟨G, 3, none⟩ a3).setCell ⟨G, 4, none⟩ a4).setCell ⟨G, 5, none⟩ a5).setCell ⟨G, 6, none⟩ a6).heap[R]? = some ob :=
  Wk.blk_far (Wk.blk_far (Wk.blk_far (Wk.blk_far (Wk.blk_far (Wk.blk_far (Wk.blk_far h hne _) hne _) hne _) hne _) hne _) hne _) hne _
theorem PI.done {w W : World} {A0 A M G : Nat} {mb mu mc mx mn : Int} {mh mt : ByteArray} {pb pu pc px pn : Int} {ph pt : ByteArray} (h : PI w A0 A M mb mu mc mx mn mh mt pb pu pc px pn ph pt (some G) W) (hM : w.heap.size ≤ M) (rb ru rc rx rn : Int) (rh rt : ByteArray) :
    PJ w A0 A M G mb mu mc mx mn mh mt pb pu pc px pn ph pt rb ru rc rx rn rh rt
      (((((((W.setCell ⟨G, 0, none⟩ (.int .i64 rb)).setCell ⟨G, 1, none⟩ (.int .i64 ru)).setCell ⟨G, 2, none⟩ (.int .i64 rc)).setCell ⟨G, 3, none⟩ (.int .i64 rx)).setCell ⟨G, 4, none⟩ (.int .i64 rn)).setCell ⟨G, 5, none⟩ (.string rh)).setCell ⟨G, 6, none⟩ (.string rt)) := by
  obtain ⟨⟨b, u, c, x, n, hh, t, q⟩, r1, r2, r3, r4⟩ := h.al G rfl
  exact ⟨far7 h.ha (by omega), far7 h.hb (by omega), far7 h.hm (by omega), set7b q, set7l h.bel r4, r1, r2, r3, r4, hM⟩
theorem PJ.pi {w W : World} {A0 A M G : Nat} {mb mu mc mx mn : Int} {mh mt : ByteArray} {pb pu pc px pn : Int} {ph pt : ByteArray} {rb ru rc rx rn : Int} {rh rt : ByteArray} (h : PJ w A0 A M G mb mu mc mx mn mh mt pb pu pc px pn ph pt rb ru rc rx rn rh rt W) : PI w A0 A M mb mu mc mx mn mh mt pb pu pc px pn ph pt (some G) W :=
  ⟨h.ha, h.hb, h.hm, h.bel, fun G' hG => by cases hG; exact ⟨⟨_, _, _, _, _, _, _, h.hg⟩, h.lt.1, h.lt.2.1, h.lt.2.2.1, h.lt.2.2.2.1⟩⟩
theorem PJ.h5 {w W : World} {A0 A M G : Nat} {mb mu mc mx mn : Int} {mh mt : ByteArray} {pb pu pc px pn : Int} {ph pt : ByteArray} {rb ru rc rx rn : Int} {rh rt : ByteArray} (h : PJ w A0 A M G mb mu mc mx mn mh mt pb pu pc px pn ph pt rb ru rc rx rn rh rt W) (s : ByteArray) : PJ w A0 A M G mb mu mc mx mn mh mt pb pu pc px pn ph pt rb ru rc rx rn s rt (W.setCell ⟨G, 5, none⟩ (.string s)) :=
  ⟨Wk.blk_far h.ha (by have := h.lt; show _ ≠ G; omega) _, Wk.blk_far h.hb (by have := h.lt; show _ ≠ G; omega) _, Wk.blk_far h.hm (by have := h.lt; show _ ≠ G; omega) _, Wk.blk_set h.hg 5 _, bel_set h.bel h.lt.2.2.2.1 _, h.lt⟩
theorem PJ.h6 {w W : World} {A0 A M G : Nat} {mb mu mc mx mn : Int} {mh mt : ByteArray} {pb pu pc px pn : Int} {ph pt : ByteArray} {rb ru rc rx rn : Int} {rh rt : ByteArray} (h : PJ w A0 A M G mb mu mc mx mn mh mt pb pu pc px pn ph pt rb ru rc rx rn rh rt W) (s : ByteArray) : PJ w A0 A M G mb mu mc mx mn mh mt pb pu pc px pn ph pt rb ru rc rx rn rh s (W.setCell ⟨G, 6, none⟩ (.string s)) :=
  ⟨Wk.blk_far h.ha (by have := h.lt; show _ ≠ G; omega) _, Wk.blk_far h.hb (by have := h.lt; show _ ≠ G; omega) _, Wk.blk_far h.hm (by have := h.lt; show _ ≠ G; omega) _, Wk.blk_set h.hg 6 _, bel_set h.bel h.lt.2.2.2.1 _, h.lt⟩
theorem PJ.dr {w W : World} {A0 A M G : Nat} {mb mu mc mx mn : Int} {mh mt : ByteArray} {pb pu pc px pn : Int} {ph pt : ByteArray} {rb ru rc rx rn : Int} {rh rt : ByteArray} (h : PJ w A0 A M G mb mu mc mx mn mh mt pb pu pc px pn ph pt rb ru rc rx rn rh rt W) (n : Nat) : PJ w A0 A M G mb mu mc mx mn mh mt pb pu pc px pn ph pt rb ru rc rx rn rh rt (W.drewN n) := ⟨h.ha, h.hb, h.hm, h.hg, bel_drewN h.bel n, h.lt⟩
theorem BxR.fz {W : World} {g : Nat} {b u c x n : Int} {h t : ByteArray} (H : BxR W g b u c x n h t) (i : Nat) : W.frozen? ⟨g, i, none⟩ = false := Wk.blk_frozen H i
set_option maxRecDepth 100000 in
set_option maxHeartbeats 4000000 in
theorem pair_raw (mb mu mc mx mn pb pu pc px pn : Int) (mh mt ph pt : ByteArray) (s1 : mt.size ≤ 400000000) (s2 : ph.size ≤ 400000000) (w : World) (hT : Tb w) :
    Calls Tryd.prog 44 #[smR mb mu mc mx mn mh mt, smR pb pu pc px pn ph pt] w fun e w' => e = .returned (smR (IntKind.i64.wrap (mb + pb)) (IntKind.i64.wrap (IntKind.i64.wrap (IntKind.i64.wrap (IntKind.i64.wrap (mu + pu) + (cU (mt ++ ph).data.toList : Nat)) - (cU mt.data.toList : Nat)) - (cU ph.data.toList : Nat))) (IntKind.i64.wrap (IntKind.i64.wrap (IntKind.i64.wrap (IntKind.i64.wrap (mc + pc) + (cC (mt ++ ph).data.toList : Nat)) - (cC mt.data.toList : Nat)) - (cC ph.data.toList : Nat))) (IntKind.i64.wrap (IntKind.i64.wrap (IntKind.i64.wrap (IntKind.i64.wrap (mx + px) + cX (mt ++ ph).data.toList) - cX mt.data.toList) - cX ph.data.toList)) (IntKind.i64.wrap (mn + pn)) (hdR mh ph) (tlR mt pt)) ∧ Below w.heap.size w w' := by
  have HT := Lib.hid hT
  have U1 := fun W => ucount_calls (mt ++ ph) (by rw [ByteArray.size_append]; omega) W
  have C1 := fun W hW => count_calls (mt ++ ph) (by rw [ByteArray.size_append]; omega) W hW
  have X1 := fun W hW => cellsum_calls (mt ++ ph) (by rw [ByteArray.size_append]; omega) W hW
  have U2 := fun W => ucount_calls mt (by omega) W
  have C2 := fun W hW => count_calls mt (by omega) W hW
  have X2 := fun W hW => cellsum_calls mt (by omega) W hW
  have U3 := fun W => ucount_calls ph (by omega) W
  have C3 := fun W hW => count_calls ph (by omega) W hW
  have X3 := fun W hW => cellsum_calls ph (by omega) W hW
  have s3 : ¬ (9223372036854775807 < mt.size + ph.size) := by omega
  obtain ⟨u1, hu1⟩ : ∃ x, cU (mt ++ ph).data.toList = x := ⟨_, rfl⟩
  rw [hu1] at U1 ⊢
  replace U1 := Lib.hid U1
  replace hu1 := Lib.hid hu1
  obtain ⟨u2, hu2⟩ : ∃ x, cU mt.data.toList = x := ⟨_, rfl⟩
  rw [hu2] at U2 ⊢
  replace U2 := Lib.hid U2
  replace hu2 := Lib.hid hu2
  obtain ⟨u3, hu3⟩ : ∃ x, cU ph.data.toList = x := ⟨_, rfl⟩
  rw [hu3] at U3 ⊢
  replace U3 := Lib.hid U3
  replace hu3 := Lib.hid hu3
  obtain ⟨c1, hc1⟩ : ∃ x, cC (mt ++ ph).data.toList = x := ⟨_, rfl⟩
  rw [hc1] at C1 ⊢
  replace C1 := Lib.hid C1
  replace hc1 := Lib.hid hc1
  obtain ⟨c2, hc2⟩ : ∃ x, cC mt.data.toList = x := ⟨_, rfl⟩
  rw [hc2] at C2 ⊢
  replace C2 := Lib.hid C2
  replace hc2 := Lib.hid hc2
  obtain ⟨c3, hc3⟩ : ∃ x, cC ph.data.toList = x := ⟨_, rfl⟩
  rw [hc3] at C3 ⊢
  replace C3 := Lib.hid C3
  replace hc3 := Lib.hid hc3
  obtain ⟨x1, hx1⟩ : ∃ x, cX (mt ++ ph).data.toList = x := ⟨_, rfl⟩
  rw [hx1] at X1 ⊢
  replace X1 := Lib.hid X1
  replace hx1 := Lib.hid hx1
  obtain ⟨x2, hx2⟩ : ∃ x, cX mt.data.toList = x := ⟨_, rfl⟩
  rw [hx2] at X2 ⊢
  replace X2 := Lib.hid X2
  replace hx2 := Lib.hid hx2
  obtain ⟨x3, hx3⟩ : ∃ x, cX ph.data.toList = x := ⟨_, rfl⟩
  rw [hx3] at X3 ⊢
  replace X3 := Lib.hid X3
  replace hx3 := Lib.hid hx3
  have H1 := fun (_ : mh.size < 16) W => head_calls (mh ++ ph) (by rw [ByteArray.size_append]; omega) W
  have T1 := fun (_ : pt.size < 16) W => tail_calls (mt ++ pt) (by rw [ByteArray.size_append]; omega) W
  have s4 : mh.size < 16 → ¬ (9223372036854775807 < mh.size + ph.size) := fun _ => by omega
  have s5 : pt.size < 16 → ¬ (9223372036854775807 < mt.size + pt.size) := fun _ => by omega
  replace H1 := Lib.hid H1
  replace T1 := Lib.hid T1
  replace s4 := Lib.hid s4
  replace s5 := Lib.hid s5
  unfold smR
  obtain ⟨RB, hRB⟩ : ∃ x, IntKind.i64.wrap (mb + pb) = x := ⟨_, rfl⟩
  obtain ⟨RU, hRU⟩ : ∃ x, IntKind.i64.wrap (IntKind.i64.wrap (IntKind.i64.wrap (IntKind.i64.wrap (mu + pu) + (u1 : Nat)) - (u2 : Nat)) - (u3 : Nat)) = x := ⟨_, rfl⟩
  obtain ⟨RC, hRC⟩ : ∃ x, IntKind.i64.wrap (IntKind.i64.wrap (IntKind.i64.wrap (IntKind.i64.wrap (mc + pc) + (c1 : Nat)) - (c2 : Nat)) - (c3 : Nat)) = x := ⟨_, rfl⟩
  obtain ⟨RX, hRX⟩ : ∃ x, IntKind.i64.wrap (IntKind.i64.wrap (IntKind.i64.wrap (IntKind.i64.wrap (mx + px) + x1) - x2) - x3) = x := ⟨_, rfl⟩
  obtain ⟨RN, hRN⟩ : ∃ x, IntKind.i64.wrap (mn + pn) = x := ⟨_, rfl⟩
  rw [hRB, hRU, hRC, hRX, hRN]
  replace hRB := Lib.hid hRB
  replace hRU := Lib.hid hRU
  replace hRC := Lib.hid hRC
  replace hRX := Lib.hid hRX
  replace hRN := Lib.hid hRN
  obtain ⟨HR, hHR⟩ : ∃ x, hdR mh ph = x := ⟨_, rfl⟩
  obtain ⟨TR, hTR⟩ : ∃ x, tlR mt pt = x := ⟨_, rfl⟩
  rw [hHR, hTR]
  replace hHR := Lib.hid hHR
  replace hTR := Lib.hid hTR
  go_enter Tryd.func44, Tryd.ntmps44
  go_upto_region 1 with fail
  obtain ⟨W, hW, a1, a2, a3, hB, hsz⟩ := three_sm w mb mu mc mx mn pb pu pc px pn mh mt ph pt
  rw [← hW]
  clear hW hT hsz
  have HM : Hid (w.heap.size ≤ w.heap.size + 1 + 1) := Lib.hid (by omega)
  obtain ⟨A, hA⟩ : ∃ A, w.heap.size + 1 = A := ⟨_, rfl⟩
  obtain ⟨M, hM⟩ : ∃ M, A + 1 = M := ⟨_, rfl⟩
  rw [hA] at a2 a3 HM ⊢
  rw [hM] at a3 HM ⊢
  have HA1 := Lib.hid a1
  have HA2 := Lib.hid a2
  have HA3 := Lib.hid a3
  obtain ⟨c0, c1, c2, c3, c4, c5, c6⟩ := a1.cs
  obtain ⟨d0, d1, d2, d3, d4, d5, d6⟩ := a2.cs
  clear a1 a2 a3
  go_region
  go_upto_region 2 with fail
  clear c0 c1 c2 c3 c4 c5 c6 d0 d1 d2 d3 d4 d5 d6 hA hM s1 s2 s3
  rename_i K hK
  replace hK := Lib.hid hK
  have K0 : PI w w.heap.size A M mb mu mc mx mn mh mt pb pu pc px pn ph pt none W.drew.drew := ⟨HA1.out, HA2.out, HA3.out, bel_drew (bel_drew hB), fun G hG => by cases hG⟩
  clear HA1 HA2 HA3 hB
  obtain ⟨A0, hA0⟩ : ∃ A0, w.heap.size = A0 := ⟨_, rfl⟩
  rw [hA0] at K0
  simp only [hA0]
  refine Two.start (I := PI w A0 A M mb mu mc mx mn mh mt pb pu pc px pn ph pt) (d := 8) (ia := 57) (n := 58) #[false, false, false, false, false, false, false, false, false, false, false, false, false, false, false, false, false, false, false, false, false, false, false, false, false, false, false, false, false, false, false, false, false, false, false, false, false, false, false, false, false, false, false, false, false, false, false, false, false, false, false, false, false, false, false, false, false, false, false] (by kernel_rfl) rfl rfl K0 ?ho (fun hAl => ?k1)
  case ho => exact ⟨_, rfl, rfl, fun a => rfl, .cells #[.int .i64 0, .int .i64 0, .int .i64 0, .int .i64 0, .int .i64 0, .string ⟨#[]⟩, .string ⟨#[]⟩] 26, fun a W => ⟨rfl, fun h => h.alloc⟩⟩
  clear K0
  --JUMP
  refine Two.take (i := 0) (N := 18) (v := ?v2) #[true, false, false, false, false, false, false, false, false, false, false, false, false, false, false, false, false, false, false, false, false, false, false, false, false, false, false, false, false, false, false, false, false, false, false, false, false, false, false, false, false, false, false, false, false, false, false, false, false, false, false, false, false, false, false, false, false, false, false] rfl rfl rfl (by decide) (by kernel_rfl) (by kernel_rfl) (fun _ _ _ h => h) (Or.inl ⟨by rfl, ?y2⟩) ?k2
  case y2 =>
    intro w0 hS
    clear hS
    go_simp
    with_reducible rfl
  simp only [Act.put, List.setIfInBounds_toArray, List.set_cons_zero, List.set_cons_succ]
  refine Two.take (i := 1) (N := 19) (v := ?v3) #[true, true, false, false, false, false, false, false, false, false, false, false, false, false, false, false, false, false, false, false, false, false, false, false, false, false, false, false, false, false, false, false, false, false, false, false, false, false, false, false, false, false, false, false, false, false, false, false, false, false, false, false, false, false, false, false, false, false, false] rfl rfl rfl (by decide) (by kernel_rfl) (by kernel_rfl) (fun _ _ _ h => h) (Or.inl ⟨by rfl, ?y3⟩) ?k3
  case y3 =>
    rintro w0 ⟨g, hI⟩
    have q := hI.ha.cs.1
    clear hI
    go_simp
    with_reducible rfl
  simp only [Act.put, List.setIfInBounds_toArray, List.set_cons_zero, List.set_cons_succ]
  refine Two.take (i := 2) (N := 20) (v := ?v4) #[true, true, true, false, false, false, false, false, false, false, false, false, false, false, false, false, false, false, false, false, false, false, false, false, false, false, false, false, false, false, false, false, false, false, false, false, false, false, false, false, false, false, false, false, false, false, false, false, false, false, false, false, false, false, false, false, false, false, false] rfl rfl rfl (by decide) (by kernel_rfl) (by kernel_rfl) (fun _ _ _ h => h) (Or.inl ⟨by rfl, ?y4⟩) ?k4
  case y4 =>
    intro w0 hS
    clear hS
    go_simp
    with_reducible rfl
  simp only [Act.put, List.setIfInBounds_toArray, List.set_cons_zero, List.set_cons_succ]
  refine Two.take (i := 3) (N := 21) (v := ?v5) #[true, true, true, true, false, false, false, false, false, false, false, false, false, false, false, false, false, false, false, false, false, false, false, false, false, false, false, false, false, false, false, false, false, false, false, false, false, false, false, false, false, false, false, false, false, false, false, false, false, false, false, false, false, false, false, false, false, false, false] rfl rfl rfl (by decide) (by kernel_rfl) (by kernel_rfl) (fun _ _ _ h => h) (Or.inl ⟨by rfl, ?y5⟩) ?k5
  case y5 =>
    rintro w0 ⟨g, hI⟩
    have q := hI.hb.cs.1
    clear hI
    go_simp
    with_reducible rfl
  simp only [Act.put, List.setIfInBounds_toArray, List.set_cons_zero, List.set_cons_succ]
  refine Two.take (i := 4) (N := 22) (v := ?v6) #[true, true, true, true, true, false, false, false, false, false, false, false, false, false, false, false, false, false, false, false, false, false, false, false, false, false, false, false, false, false, false, false, false, false, false, false, false, false, false, false, false, false, false, false, false, false, false, false, false, false, false, false, false, false, false, false, false, false, false] rfl rfl rfl (by decide) (by kernel_rfl) (by kernel_rfl) (fun _ _ _ h => h) (Or.inl ⟨by rfl, ?y6⟩) ?k6
  case y6 =>
    intro w0 hS
    clear hS
    go_simp
    with_reducible rfl
  simp only [Act.put, List.setIfInBounds_toArray, List.set_cons_zero, List.set_cons_succ]
  refine Two.take (i := 5) (N := 23) (v := ?v7) #[true, true, true, true, true, true, false, false, false, false, false, false, false, false, false, false, false, false, false, false, false, false, false, false, false, false, false, false, false, false, false, false, false, false, false, false, false, false, false, false, false, false, false, false, false, false, false, false, false, false, false, false, false, false, false, false, false, false, false] rfl rfl rfl (by decide) (by kernel_rfl) (by kernel_rfl) (fun _ _ _ h => h) (Or.inl ⟨by rfl, ?y7⟩) ?k7
  case y7 =>
    intro w0 hS
    clear hS
    go_simp
    with_reducible rfl
  simp only [Act.put, List.setIfInBounds_toArray, List.set_cons_zero, List.set_cons_succ]
  refine Two.take (i := 6) (N := 24) (v := ?v8) #[true, true, true, true, true, true, true, false, false, false, false, false, false, false, false, false, false, false, false, false, false, false, false, false, false, false, false, false, false, false, false, false, false, false, false, false, false, false, false, false, false, false, false, false, false, false, false, false, false, false, false, false, false, false, false, false, false, false, false] rfl rfl rfl (by decide) (by kernel_rfl) (by kernel_rfl) (fun _ _ _ h => h) (Or.inl ⟨by rfl, ?y8⟩) ?k8
  case y8 =>
    rintro w0 ⟨g, hI⟩
    have q := hI.ha.cs.2.1
    clear hI
    go_simp
    with_reducible rfl
  simp only [Act.put, List.setIfInBounds_toArray, List.set_cons_zero, List.set_cons_succ]
  refine Two.take (i := 7) (N := 25) (v := ?v9) #[true, true, true, true, true, true, true, true, false, false, false, false, false, false, false, false, false, false, false, false, false, false, false, false, false, false, false, false, false, false, false, false, false, false, false, false, false, false, false, false, false, false, false, false, false, false, false, false, false, false, false, false, false, false, false, false, false, false, false] rfl rfl rfl (by decide) (by kernel_rfl) (by kernel_rfl) (fun _ _ _ h => h) (Or.inl ⟨by rfl, ?y9⟩) ?k9
  case y9 =>
    intro w0 hS
    clear hS
    go_simp
    with_reducible rfl
  simp only [Act.put, List.setIfInBounds_toArray, List.set_cons_zero, List.set_cons_succ]
  refine Two.take (i := 8) (N := 26) (v := ?v10) #[true, true, true, true, true, true, true, true, true, false, false, false, false, false, false, false, false, false, false, false, false, false, false, false, false, false, false, false, false, false, false, false, false, false, false, false, false, false, false, false, false, false, false, false, false, false, false, false, false, false, false, false, false, false, false, false, false, false, false] rfl rfl rfl (by decide) (by kernel_rfl) (by kernel_rfl) (fun _ _ _ h => h) (Or.inl ⟨by rfl, ?y10⟩) ?k10
  case y10 =>
    rintro w0 ⟨g, hI⟩
    have q := hI.hb.cs.2.1
    clear hI
    go_simp
    with_reducible rfl
  simp only [Act.put, List.setIfInBounds_toArray, List.set_cons_zero, List.set_cons_succ]
  refine Two.take (i := 9) (N := 27) (v := ?v11) #[true, true, true, true, true, true, true, true, true, true, false, false, false, false, false, false, false, false, false, false, false, false, false, false, false, false, false, false, false, false, false, false, false, false, false, false, false, false, false, false, false, false, false, false, false, false, false, false, false, false, false, false, false, false, false, false, false, false, false] rfl rfl rfl (by decide) (by kernel_rfl) (by kernel_rfl) (fun _ _ _ h => h) (Or.inl ⟨by rfl, ?y11⟩) ?k11
  case y11 =>
    intro w0 hS
    clear hS
    go_simp
    with_reducible rfl
  simp only [Act.put, List.setIfInBounds_toArray, List.set_cons_zero, List.set_cons_succ]
  refine Two.take (i := 10) (N := 28) (v := ?v12) #[true, true, true, true, true, true, true, true, true, true, true, false, false, false, false, false, false, false, false, false, false, false, false, false, false, false, false, false, false, false, false, false, false, false, false, false, false, false, false, false, false, false, false, false, false, false, false, false, false, false, false, false, false, false, false, false, false, false, false] rfl rfl rfl (by decide) (by kernel_rfl) (by kernel_rfl) (fun _ _ _ h => h) (Or.inl ⟨by rfl, ?y12⟩) ?k12
  case y12 =>
    intro w0 hS
    clear hS
    go_simp
    with_reducible rfl
  simp only [Act.put, List.setIfInBounds_toArray, List.set_cons_zero, List.set_cons_succ]
  refine Two.take (i := 13) (N := 31) (v := ?v13) #[true, true, true, true, true, true, true, true, true, true, true, false, false, true, false, false, false, false, false, false, false, false, false, false, false, false, false, false, false, false, false, false, false, false, false, false, false, false, false, false, false, false, false, false, false, false, false, false, false, false, false, false, false, false, false, false, false, false, false] rfl rfl rfl (by decide) (by kernel_rfl) (by kernel_rfl) (fun _ _ _ h => h) (Or.inl ⟨by rfl, ?y13⟩) ?k13
  case y13 =>
    intro w0 hS
    clear hS
    go_simp
    with_reducible rfl
  simp only [Act.put, List.setIfInBounds_toArray, List.set_cons_zero, List.set_cons_succ]
  refine Two.take (i := 16) (N := 34) (v := ?v14) #[true, true, true, true, true, true, true, true, true, true, true, false, false, true, false, false, true, false, false, false, false, false, false, false, false, false, false, false, false, false, false, false, false, false, false, false, false, false, false, false, false, false, false, false, false, false, false, false, false, false, false, false, false, false, false, false, false, false, false] rfl rfl rfl (by decide) (by kernel_rfl) (by kernel_rfl) (fun _ _ _ h => h) (Or.inl ⟨by rfl, ?y14⟩) ?k14
  case y14 =>
    intro w0 hS
    clear hS
    go_simp
    with_reducible rfl
  simp only [Act.put, List.setIfInBounds_toArray, List.set_cons_zero, List.set_cons_succ]
  refine Two.take (i := 19) (N := 37) (v := ?v15) #[true, true, true, true, true, true, true, true, true, true, true, false, false, true, false, false, true, false, false, true, false, false, false, false, false, false, false, false, false, false, false, false, false, false, false, false, false, false, false, false, false, false, false, false, false, false, false, false, false, false, false, false, false, false, false, false, false, false, false] rfl rfl rfl (by decide) (by kernel_rfl) (by kernel_rfl) (fun _ _ _ h => h) (Or.inl ⟨by rfl, ?y15⟩) ?k15
  case y15 =>
    intro w0 hS
    clear hS
    go_simp
    with_reducible rfl
  simp only [Act.put, List.setIfInBounds_toArray, List.set_cons_zero, List.set_cons_succ]
  refine Two.take (i := 20) (N := 38) (v := ?v16) #[true, true, true, true, true, true, true, true, true, true, true, false, false, true, false, false, true, false, false, true, true, false, false, false, false, false, false, false, false, false, false, false, false, false, false, false, false, false, false, false, false, false, false, false, false, false, false, false, false, false, false, false, false, false, false, false, false, false, false] rfl rfl rfl (by decide) (by kernel_rfl) (by kernel_rfl) (fun _ _ _ h => h) (Or.inl ⟨by rfl, ?y16⟩) ?k16
  case y16 =>
    rintro w0 ⟨g, hI⟩
    have q := hI.ha.cs.2.2.1
    clear hI
    go_simp
    with_reducible rfl
  simp only [Act.put, List.setIfInBounds_toArray, List.set_cons_zero, List.set_cons_succ]
  refine Two.take (i := 21) (N := 39) (v := ?v17) #[true, true, true, true, true, true, true, true, true, true, true, false, false, true, false, false, true, false, false, true, true, true, false, false, false, false, false, false, false, false, false, false, false, false, false, false, false, false, false, false, false, false, false, false, false, false, false, false, false, false, false, false, false, false, false, false, false, false, false] rfl rfl rfl (by decide) (by kernel_rfl) (by kernel_rfl) (fun _ _ _ h => h) (Or.inl ⟨by rfl, ?y17⟩) ?k17
  case y17 =>
    intro w0 hS
    clear hS
    go_simp
    with_reducible rfl
  simp only [Act.put, List.setIfInBounds_toArray, List.set_cons_zero, List.set_cons_succ]
  refine Two.take (i := 22) (N := 40) (v := ?v18) #[true, true, true, true, true, true, true, true, true, true, true, false, false, true, false, false, true, false, false, true, true, true, true, false, false, false, false, false, false, false, false, false, false, false, false, false, false, false, false, false, false, false, false, false, false, false, false, false, false, false, false, false, false, false, false, false, false, false, false] rfl rfl rfl (by decide) (by kernel_rfl) (by kernel_rfl) (fun _ _ _ h => h) (Or.inl ⟨by rfl, ?y18⟩) ?k18
  case y18 =>
    rintro w0 ⟨g, hI⟩
    have q := hI.hb.cs.2.2.1
    clear hI
    go_simp
    with_reducible rfl
  simp only [Act.put, List.setIfInBounds_toArray, List.set_cons_zero, List.set_cons_succ]
  refine Two.take (i := 23) (N := 41) (v := ?v19) #[true, true, true, true, true, true, true, true, true, true, true, false, false, true, false, false, true, false, false, true, true, true, true, true, false, false, false, false, false, false, false, false, false, false, false, false, false, false, false, false, false, false, false, false, false, false, false, false, false, false, false, false, false, false, false, false, false, false, false] rfl rfl rfl (by decide) (by kernel_rfl) (by kernel_rfl) (fun _ _ _ h => h) (Or.inl ⟨by rfl, ?y19⟩) ?k19
  case y19 =>
    intro w0 hS
    clear hS
    go_simp
    with_reducible rfl
  simp only [Act.put, List.setIfInBounds_toArray, List.set_cons_zero, List.set_cons_succ]
  refine Two.take (i := 24) (N := 42) (v := ?v20) #[true, true, true, true, true, true, true, true, true, true, true, false, false, true, false, false, true, false, false, true, true, true, true, true, true, false, false, false, false, false, false, false, false, false, false, false, false, false, false, false, false, false, false, false, false, false, false, false, false, false, false, false, false, false, false, false, false, false, false] rfl rfl rfl (by decide) (by kernel_rfl) (by kernel_rfl) (fun _ _ _ h => h) (Or.inl ⟨by rfl, ?y20⟩) ?k20
  case y20 =>
    intro w0 hS
    clear hS
    go_simp
    with_reducible rfl
  simp only [Act.put, List.setIfInBounds_toArray, List.set_cons_zero, List.set_cons_succ]
  refine Two.take (i := 27) (N := 45) (v := ?v21) #[true, true, true, true, true, true, true, true, true, true, true, false, false, true, false, false, true, false, false, true, true, true, true, true, true, false, false, true, false, false, false, false, false, false, false, false, false, false, false, false, false, false, false, false, false, false, false, false, false, false, false, false, false, false, false, false, false, false, false] rfl rfl rfl (by decide) (by kernel_rfl) (by kernel_rfl) (fun _ _ _ h => h) (Or.inl ⟨by rfl, ?y21⟩) ?k21
  case y21 =>
    intro w0 hS
    clear hS
    go_simp
    with_reducible rfl
  simp only [Act.put, List.setIfInBounds_toArray, List.set_cons_zero, List.set_cons_succ]
  refine Two.take (i := 30) (N := 48) (v := ?v22) #[true, true, true, true, true, true, true, true, true, true, true, false, false, true, false, false, true, false, false, true, true, true, true, true, true, false, false, true, false, false, true, false, false, false, false, false, false, false, false, false, false, false, false, false, false, false, false, false, false, false, false, false, false, false, false, false, false, false, false] rfl rfl rfl (by decide) (by kernel_rfl) (by kernel_rfl) (fun _ _ _ h => h) (Or.inl ⟨by rfl, ?y22⟩) ?k22
  case y22 =>
    intro w0 hS
    clear hS
    go_simp
    with_reducible rfl
  simp only [Act.put, List.setIfInBounds_toArray, List.set_cons_zero, List.set_cons_succ]
  refine Two.take (i := 33) (N := 51) (v := ?v23) #[true, true, true, true, true, true, true, true, true, true, true, false, false, true, false, false, true, false, false, true, true, true, true, true, true, false, false, true, false, false, true, false, false, true, false, false, false, false, false, false, false, false, false, false, false, false, false, false, false, false, false, false, false, false, false, false, false, false, false] rfl rfl rfl (by decide) (by kernel_rfl) (by kernel_rfl) (fun _ _ _ h => h) (Or.inl ⟨by rfl, ?y23⟩) ?k23
  case y23 =>
    intro w0 hS
    clear hS
    go_simp
    with_reducible rfl
  simp only [Act.put, List.setIfInBounds_toArray, List.set_cons_zero, List.set_cons_succ]
  refine Two.take (i := 34) (N := 52) (v := ?v24) #[true, true, true, true, true, true, true, true, true, true, true, false, false, true, false, false, true, false, false, true, true, true, true, true, true, false, false, true, false, false, true, false, false, true, true, false, false, false, false, false, false, false, false, false, false, false, false, false, false, false, false, false, false, false, false, false, false, false, false] rfl rfl rfl (by decide) (by kernel_rfl) (by kernel_rfl) (fun _ _ _ h => h) (Or.inl ⟨by rfl, ?y24⟩) ?k24
  case y24 =>
    rintro w0 ⟨g, hI⟩
    have q := hI.ha.cs.2.2.2.1
    clear hI
    go_simp
    with_reducible rfl
  simp only [Act.put, List.setIfInBounds_toArray, List.set_cons_zero, List.set_cons_succ]
  refine Two.take (i := 35) (N := 53) (v := ?v25) #[true, true, true, true, true, true, true, true, true, true, true, false, false, true, false, false, true, false, false, true, true, true, true, true, true, false, false, true, false, false, true, false, false, true, true, true, false, false, false, false, false, false, false, false, false, false, false, false, false, false, false, false, false, false, false, false, false, false, false] rfl rfl rfl (by decide) (by kernel_rfl) (by kernel_rfl) (fun _ _ _ h => h) (Or.inl ⟨by rfl, ?y25⟩) ?k25
  case y25 =>
    intro w0 hS
    clear hS
    go_simp
    with_reducible rfl
  simp only [Act.put, List.setIfInBounds_toArray, List.set_cons_zero, List.set_cons_succ]
  refine Two.take (i := 36) (N := 54) (v := ?v26) #[true, true, true, true, true, true, true, true, true, true, true, false, false, true, false, false, true, false, false, true, true, true, true, true, true, false, false, true, false, false, true, false, false, true, true, true, true, false, false, false, false, false, false, false, false, false, false, false, false, false, false, false, false, false, false, false, false, false, false] rfl rfl rfl (by decide) (by kernel_rfl) (by kernel_rfl) (fun _ _ _ h => h) (Or.inl ⟨by rfl, ?y26⟩) ?k26
  case y26 =>
    rintro w0 ⟨g, hI⟩
    have q := hI.hb.cs.2.2.2.1
    clear hI
    go_simp
    with_reducible rfl
  simp only [Act.put, List.setIfInBounds_toArray, List.set_cons_zero, List.set_cons_succ]
  refine Two.take (i := 37) (N := 55) (v := ?v27) #[true, true, true, true, true, true, true, true, true, true, true, false, false, true, false, false, true, false, false, true, true, true, true, true, true, false, false, true, false, false, true, false, false, true, true, true, true, true, false, false, false, false, false, false, false, false, false, false, false, false, false, false, false, false, false, false, false, false, false] rfl rfl rfl (by decide) (by kernel_rfl) (by kernel_rfl) (fun _ _ _ h => h) (Or.inl ⟨by rfl, ?y27⟩) ?k27
  case y27 =>
    intro w0 hS
    clear hS
    go_simp
    with_reducible rfl
  simp only [Act.put, List.setIfInBounds_toArray, List.set_cons_zero, List.set_cons_succ]
  refine Two.take (i := 38) (N := 56) (v := ?v28) #[true, true, true, true, true, true, true, true, true, true, true, false, false, true, false, false, true, false, false, true, true, true, true, true, true, false, false, true, false, false, true, false, false, true, true, true, true, true, true, false, false, false, false, false, false, false, false, false, false, false, false, false, false, false, false, false, false, false, false] rfl rfl rfl (by decide) (by kernel_rfl) (by kernel_rfl) (fun _ _ _ h => h) (Or.inl ⟨by rfl, ?y28⟩) ?k28
  case y28 =>
    intro w0 hS
    clear hS
    go_simp
    with_reducible rfl
  simp only [Act.put, List.setIfInBounds_toArray, List.set_cons_zero, List.set_cons_succ]
  refine Two.take (i := 41) (N := 59) (v := ?v29) #[true, true, true, true, true, true, true, true, true, true, true, false, false, true, false, false, true, false, false, true, true, true, true, true, true, false, false, true, false, false, true, false, false, true, true, true, true, true, true, false, false, true, false, false, false, false, false, false, false, false, false, false, false, false, false, false, false, false, false] rfl rfl rfl (by decide) (by kernel_rfl) (by kernel_rfl) (fun _ _ _ h => h) (Or.inl ⟨by rfl, ?y29⟩) ?k29
  case y29 =>
    intro w0 hS
    clear hS
    go_simp
    with_reducible rfl
  simp only [Act.put, List.setIfInBounds_toArray, List.set_cons_zero, List.set_cons_succ]
  refine Two.take (i := 44) (N := 62) (v := ?v30) #[true, true, true, true, true, true, true, true, true, true, true, false, false, true, false, false, true, false, false, true, true, true, true, true, true, false, false, true, false, false, true, false, false, true, true, true, true, true, true, false, false, true, false, false, true, false, false, false, false, false, false, false, false, false, false, false, false, false, false] rfl rfl rfl (by decide) (by kernel_rfl) (by kernel_rfl) (fun _ _ _ h => h) (Or.inl ⟨by rfl, ?y30⟩) ?k30
  case y30 =>
    intro w0 hS
    clear hS
    go_simp
    with_reducible rfl
  simp only [Act.put, List.setIfInBounds_toArray, List.set_cons_zero, List.set_cons_succ]
  refine Two.take (i := 47) (N := 65) (v := ?v31) #[true, true, true, true, true, true, true, true, true, true, true, false, false, true, false, false, true, false, false, true, true, true, true, true, true, false, false, true, false, false, true, false, false, true, true, true, true, true, true, false, false, true, false, false, true, false, false, true, false, false, false, false, false, false, false, false, false, false, false] rfl rfl rfl (by decide) (by kernel_rfl) (by kernel_rfl) (fun _ _ _ h => h) (Or.inl ⟨by rfl, ?y31⟩) ?k31
  case y31 =>
    intro w0 hS
    clear hS
    go_simp
    with_reducible rfl
  simp only [Act.put, List.setIfInBounds_toArray, List.set_cons_zero, List.set_cons_succ]
  refine Two.take (i := 48) (N := 66) (v := ?v32) #[true, true, true, true, true, true, true, true, true, true, true, false, false, true, false, false, true, false, false, true, true, true, true, true, true, false, false, true, false, false, true, false, false, true, true, true, true, true, true, false, false, true, false, false, true, false, false, true, true, false, false, false, false, false, false, false, false, false, false] rfl rfl rfl (by decide) (by kernel_rfl) (by kernel_rfl) (fun _ _ _ h => h) (Or.inl ⟨by rfl, ?y32⟩) ?k32
  case y32 =>
    rintro w0 ⟨g, hI⟩
    have q := hI.ha.cs.2.2.2.2.1
    clear hI
    go_simp
    with_reducible rfl
  simp only [Act.put, List.setIfInBounds_toArray, List.set_cons_zero, List.set_cons_succ]
  refine Two.take (i := 49) (N := 67) (v := ?v33) #[true, true, true, true, true, true, true, true, true, true, true, false, false, true, false, false, true, false, false, true, true, true, true, true, true, false, false, true, false, false, true, false, false, true, true, true, true, true, true, false, false, true, false, false, true, false, false, true, true, true, false, false, false, false, false, false, false, false, false] rfl rfl rfl (by decide) (by kernel_rfl) (by kernel_rfl) (fun _ _ _ h => h) (Or.inl ⟨by rfl, ?y33⟩) ?k33
  case y33 =>
    intro w0 hS
    clear hS
    go_simp
    with_reducible rfl
  simp only [Act.put, List.setIfInBounds_toArray, List.set_cons_zero, List.set_cons_succ]
  refine Two.take (i := 50) (N := 68) (v := ?v34) #[true, true, true, true, true, true, true, true, true, true, true, false, false, true, false, false, true, false, false, true, true, true, true, true, true, false, false, true, false, false, true, false, false, true, true, true, true, true, true, false, false, true, false, false, true, false, false, true, true, true, true, false, false, false, false, false, false, false, false] rfl rfl rfl (by decide) (by kernel_rfl) (by kernel_rfl) (fun _ _ _ h => h) (Or.inl ⟨by rfl, ?y34⟩) ?k34
  case y34 =>
    rintro w0 ⟨g, hI⟩
    have q := hI.hb.cs.2.2.2.2.1
    clear hI
    go_simp
    with_reducible rfl
  simp only [Act.put, List.setIfInBounds_toArray, List.set_cons_zero, List.set_cons_succ]
  refine Two.take (i := 51) (N := 69) (v := ?v35) #[true, true, true, true, true, true, true, true, true, true, true, false, false, true, false, false, true, false, false, true, true, true, true, true, true, false, false, true, false, false, true, false, false, true, true, true, true, true, true, false, false, true, false, false, true, false, false, true, true, true, true, true, false, false, false, false, false, false, false] rfl rfl rfl (by decide) (by kernel_rfl) (by kernel_rfl) (fun _ _ _ h => h) (Or.inl ⟨by rfl, ?y35⟩) ?k35
  case y35 =>
    intro w0 hS
    clear hS
    go_simp
    with_reducible rfl
  simp only [Act.put, List.setIfInBounds_toArray, List.set_cons_zero, List.set_cons_succ]
  refine Two.take (i := 52) (N := 70) (v := ?v36) #[true, true, true, true, true, true, true, true, true, true, true, false, false, true, false, false, true, false, false, true, true, true, true, true, true, false, false, true, false, false, true, false, false, true, true, true, true, true, true, false, false, true, false, false, true, false, false, true, true, true, true, true, true, false, false, false, false, false, false] rfl rfl rfl (by decide) (by kernel_rfl) (by kernel_rfl) (fun _ _ _ h => h) (Or.inl ⟨by rfl, ?y36⟩) ?k36
  case y36 =>
    intro w0 hS
    clear hS
    go_simp
    with_reducible rfl
  simp only [Act.put, List.setIfInBounds_toArray, List.set_cons_zero, List.set_cons_succ]
  refine Two.take (i := 53) (N := 71) (v := ?v37) #[true, true, true, true, true, true, true, true, true, true, true, false, false, true, false, false, true, false, false, true, true, true, true, true, true, false, false, true, false, false, true, false, false, true, true, true, true, true, true, false, false, true, false, false, true, false, false, true, true, true, true, true, true, true, false, false, false, false, false] rfl rfl rfl (by decide) (by kernel_rfl) (by kernel_rfl) (fun _ _ _ h => h) (Or.inl ⟨by rfl, ?y37⟩) ?k37
  case y37 =>
    rintro w0 ⟨g, hI⟩
    have q := hI.ha.cs.2.2.2.2.2.1
    clear hI
    go_simp
    with_reducible rfl
  simp only [Act.put, List.setIfInBounds_toArray, List.set_cons_zero, List.set_cons_succ]
  refine Two.take (i := 54) (N := 72) (v := ?v38) #[true, true, true, true, true, true, true, true, true, true, true, false, false, true, false, false, true, false, false, true, true, true, true, true, true, false, false, true, false, false, true, false, false, true, true, true, true, true, true, false, false, true, false, false, true, false, false, true, true, true, true, true, true, true, true, false, false, false, false] rfl rfl rfl (by decide) (by kernel_rfl) (by kernel_rfl) (fun _ _ _ h => h) (Or.inl ⟨by rfl, ?y38⟩) ?k38
  case y38 =>
    intro w0 hS
    clear hS
    go_simp
    with_reducible rfl
  simp only [Act.put, List.setIfInBounds_toArray, List.set_cons_zero, List.set_cons_succ]
  refine Two.take (i := 55) (N := 73) (v := ?v39) #[true, true, true, true, true, true, true, true, true, true, true, false, false, true, false, false, true, false, false, true, true, true, true, true, true, false, false, true, false, false, true, false, false, true, true, true, true, true, true, false, false, true, false, false, true, false, false, true, true, true, true, true, true, true, true, true, false, false, false] rfl rfl rfl (by decide) (by kernel_rfl) (by kernel_rfl) (fun _ _ _ h => h) (Or.inl ⟨by rfl, ?y39⟩) ?k39
  case y39 =>
    rintro w0 ⟨g, hI⟩
    have q := hI.hb.cs.2.2.2.2.2.2
    clear hI
    go_simp
    with_reducible rfl
  simp only [Act.put, List.setIfInBounds_toArray, List.set_cons_zero, List.set_cons_succ]
  refine Two.call (i := 11) (N := 29) (f := 20) (args := #[.string (mt ++ ph)]) (v := .int .i64 (u1 : Nat)) hAl #[true, true, true, true, true, true, true, true, true, true, true, true, false, true, false, false, true, false, false, true, true, true, true, true, true, false, false, true, false, false, true, false, false, true, true, true, true, true, true, false, false, true, false, false, true, false, false, true, true, true, true, true, true, true, true, true, false, false, false] rfl rfl rfl (by decide) (by kernel_rfl) (by kernel_rfl) rfl ?r40 (fun g w0 hI => (U1.out _).mono (fun e w1 h => ⟨h.1, hI.call h.2⟩)) ?k40
  case r40 =>
    intro w0
    go_simp
  simp only [Act.put, List.setIfInBounds_toArray, List.set_cons_zero, List.set_cons_succ]
  refine Two.take (i := 12) (N := 30) (v := ?v41) #[true, true, true, true, true, true, true, true, true, true, true, true, true, true, false, false, true, false, false, true, true, true, true, true, true, false, false, true, false, false, true, false, false, true, true, true, true, true, true, false, false, true, false, false, true, false, false, true, true, true, true, true, true, true, true, true, false, false, false] rfl rfl rfl (by decide) (by kernel_rfl) (by kernel_rfl) (fun _ _ _ h => h) (Or.inl ⟨by rfl, ?y41⟩) ?k41
  case y41 =>
    intro w0 hS
    clear hS
    go_simp
    with_reducible rfl
  simp only [Act.put, List.setIfInBounds_toArray, List.set_cons_zero, List.set_cons_succ]
  refine Two.call (i := 14) (N := 32) (f := 20) (args := #[.string mt]) (v := .int .i64 (u2 : Nat)) hAl #[true, true, true, true, true, true, true, true, true, true, true, true, true, true, true, false, true, false, false, true, true, true, true, true, true, false, false, true, false, false, true, false, false, true, true, true, true, true, true, false, false, true, false, false, true, false, false, true, true, true, true, true, true, true, true, true, false, false, false] rfl rfl rfl (by decide) (by kernel_rfl) (by kernel_rfl) rfl ?r42 (fun g w0 hI => (U2.out _).mono (fun e w1 h => ⟨h.1, hI.call h.2⟩)) ?k42
  case r42 =>
    intro w0
    go_simp
  simp only [Act.put, List.setIfInBounds_toArray, List.set_cons_zero, List.set_cons_succ]
  refine Two.take (i := 15) (N := 33) (v := ?v43) #[true, true, true, true, true, true, true, true, true, true, true, true, true, true, true, true, true, false, false, true, true, true, true, true, true, false, false, true, false, false, true, false, false, true, true, true, true, true, true, false, false, true, false, false, true, false, false, true, true, true, true, true, true, true, true, true, false, false, false] rfl rfl rfl (by decide) (by kernel_rfl) (by kernel_rfl) (fun _ _ _ h => h) (Or.inl ⟨by rfl, ?y43⟩) ?k43
  case y43 =>
    intro w0 hS
    clear hS
    go_simp
    with_reducible rfl
  simp only [Act.put, List.setIfInBounds_toArray, List.set_cons_zero, List.set_cons_succ]
  refine Two.call (i := 17) (N := 35) (f := 20) (args := #[.string ph]) (v := .int .i64 (u3 : Nat)) hAl #[true, true, true, true, true, true, true, true, true, true, true, true, true, true, true, true, true, true, false, true, true, true, true, true, true, false, false, true, false, false, true, false, false, true, true, true, true, true, true, false, false, true, false, false, true, false, false, true, true, true, true, true, true, true, true, true, false, false, false] rfl rfl rfl (by decide) (by kernel_rfl) (by kernel_rfl) rfl ?r44 (fun g w0 hI => (U3.out _).mono (fun e w1 h => ⟨h.1, hI.call h.2⟩)) ?k44
  case r44 =>
    intro w0
    go_simp
  simp only [Act.put, List.setIfInBounds_toArray, List.set_cons_zero, List.set_cons_succ]
  refine Two.take (i := 18) (N := 36) (v := ?v45) #[true, true, true, true, true, true, true, true, true, true, true, true, true, true, true, true, true, true, true, true, true, true, true, true, true, false, false, true, false, false, true, false, false, true, true, true, true, true, true, false, false, true, false, false, true, false, false, true, true, true, true, true, true, true, true, true, false, false, false] rfl rfl rfl (by decide) (by kernel_rfl) (by kernel_rfl) (fun _ _ _ h => h) (Or.inl ⟨by rfl, ?y45⟩) ?k45
  case y45 =>
    intro w0 hS
    clear hS
    go_simp
    with_reducible rfl
  simp only [Act.put, List.setIfInBounds_toArray, List.set_cons_zero, List.set_cons_succ]
  refine Two.call (i := 25) (N := 43) (f := 21) (args := #[.string (mt ++ ph)]) (v := .int .i64 (c1 : Nat)) hAl #[true, true, true, true, true, true, true, true, true, true, true, true, true, true, true, true, true, true, true, true, true, true, true, true, true, true, false, true, false, false, true, false, false, true, true, true, true, true, true, false, false, true, false, false, true, false, false, true, true, true, true, true, true, true, true, true, false, false, false] rfl rfl rfl (by decide) (by kernel_rfl) (by kernel_rfl) rfl ?r46 (fun g w0 hI => (C1.out _ (HT.out.below hI.bel)).mono (fun e w1 h => ⟨h.1, hI.call h.2⟩)) ?k46
  case r46 =>
    intro w0
    go_simp
  simp only [Act.put, List.setIfInBounds_toArray, List.set_cons_zero, List.set_cons_succ]
  refine Two.take (i := 26) (N := 44) (v := ?v47) #[true, true, true, true, true, true, true, true, true, true, true, true, true, true, true, true, true, true, true, true, true, true, true, true, true, true, true, true, false, false, true, false, false, true, true, true, true, true, true, false, false, true, false, false, true, false, false, true, true, true, true, true, true, true, true, true, false, false, false] rfl rfl rfl (by decide) (by kernel_rfl) (by kernel_rfl) (fun _ _ _ h => h) (Or.inl ⟨by rfl, ?y47⟩) ?k47
  case y47 =>
    intro w0 hS
    clear hS
    go_simp
    with_reducible rfl
  simp only [Act.put, List.setIfInBounds_toArray, List.set_cons_zero, List.set_cons_succ]
  refine Two.call (i := 28) (N := 46) (f := 21) (args := #[.string mt]) (v := .int .i64 (c2 : Nat)) hAl #[true, true, true, true, true, true, true, true, true, true, true, true, true, true, true, true, true, true, true, true, true, true, true, true, true, true, true, true, true, false, true, false, false, true, true, true, true, true, true, false, false, true, false, false, true, false, false, true, true, true, true, true, true, true, true, true, false, false, false] rfl rfl rfl (by decide) (by kernel_rfl) (by kernel_rfl) rfl ?r48 (fun g w0 hI => (C2.out _ (HT.out.below hI.bel)).mono (fun e w1 h => ⟨h.1, hI.call h.2⟩)) ?k48
  case r48 =>
    intro w0
    go_simp
  simp only [Act.put, List.setIfInBounds_toArray, List.set_cons_zero, List.set_cons_succ]
  refine Two.take (i := 29) (N := 47) (v := ?v49) #[true, true, true, true, true, true, true, true, true, true, true, true, true, true, true, true, true, true, true, true, true, true, true, true, true, true, true, true, true, true, true, false, false, true, true, true, true, true, true, false, false, true, false, false, true, false, false, true, true, true, true, true, true, true, true, true, false, false, false] rfl rfl rfl (by decide) (by kernel_rfl) (by kernel_rfl) (fun _ _ _ h => h) (Or.inl ⟨by rfl, ?y49⟩) ?k49
  case y49 =>
    intro w0 hS
    clear hS
    go_simp
    with_reducible rfl
  simp only [Act.put, List.setIfInBounds_toArray, List.set_cons_zero, List.set_cons_succ]
  refine Two.call (i := 31) (N := 49) (f := 21) (args := #[.string ph]) (v := .int .i64 (c3 : Nat)) hAl #[true, true, true, true, true, true, true, true, true, true, true, true, true, true, true, true, true, true, true, true, true, true, true, true, true, true, true, true, true, true, true, true, false, true, true, true, true, true, true, false, false, true, false, false, true, false, false, true, true, true, true, true, true, true, true, true, false, false, false] rfl rfl rfl (by decide) (by kernel_rfl) (by kernel_rfl) rfl ?r50 (fun g w0 hI => (C3.out _ (HT.out.below hI.bel)).mono (fun e w1 h => ⟨h.1, hI.call h.2⟩)) ?k50
  case r50 =>
    intro w0
    go_simp
  simp only [Act.put, List.setIfInBounds_toArray, List.set_cons_zero, List.set_cons_succ]
  refine Two.take (i := 32) (N := 50) (v := ?v51) #[true, true, true, true, true, true, true, true, true, true, true, true, true, true, true, true, true, true, true, true, true, true, true, true, true, true, true, true, true, true, true, true, true, true, true, true, true, true, true, false, false, true, false, false, true, false, false, true, true, true, true, true, true, true, true, true, false, false, false] rfl rfl rfl (by decide) (by kernel_rfl) (by kernel_rfl) (fun _ _ _ h => h) (Or.inl ⟨by rfl, ?y51⟩) ?k51
  case y51 =>
    intro w0 hS
    clear hS
    go_simp
    with_reducible rfl
  simp only [Act.put, List.setIfInBounds_toArray, List.set_cons_zero, List.set_cons_succ]
  refine Two.call (i := 39) (N := 57) (f := 22) (args := #[.string (mt ++ ph)]) (v := .int .i64 x1) hAl #[true, true, true, true, true, true, true, true, true, true, true, true, true, true, true, true, true, true, true, true, true, true, true, true, true, true, true, true, true, true, true, true, true, true, true, true, true, true, true, true, false, true, false, false, true, false, false, true, true, true, true, true, true, true, true, true, false, false, false] rfl rfl rfl (by decide) (by kernel_rfl) (by kernel_rfl) rfl ?r52 (fun g w0 hI => (X1.out _ (HT.out.below hI.bel)).mono (fun e w1 h => ⟨h.1, hI.call h.2⟩)) ?k52
  case r52 =>
    intro w0
    go_simp
  simp only [Act.put, List.setIfInBounds_toArray, List.set_cons_zero, List.set_cons_succ]
  refine Two.take (i := 40) (N := 58) (v := ?v53) #[true, true, true, true, true, true, true, true, true, true, true, true, true, true, true, true, true, true, true, true, true, true, true, true, true, true, true, true, true, true, true, true, true, true, true, true, true, true, true, true, true, true, false, false, true, false, false, true, true, true, true, true, true, true, true, true, false, false, false] rfl rfl rfl (by decide) (by kernel_rfl) (by kernel_rfl) (fun _ _ _ h => h) (Or.inl ⟨by rfl, ?y53⟩) ?k53
  case y53 =>
    intro w0 hS
    clear hS
    go_simp
    with_reducible rfl
  simp only [Act.put, List.setIfInBounds_toArray, List.set_cons_zero, List.set_cons_succ]
  refine Two.call (i := 42) (N := 60) (f := 22) (args := #[.string mt]) (v := .int .i64 x2) hAl #[true, true, true, true, true, true, true, true, true, true, true, true, true, true, true, true, true, true, true, true, true, true, true, true, true, true, true, true, true, true, true, true, true, true, true, true, true, true, true, true, true, true, true, false, true, false, false, true, true, true, true, true, true, true, true, true, false, false, false] rfl rfl rfl (by decide) (by kernel_rfl) (by kernel_rfl) rfl ?r54 (fun g w0 hI => (X2.out _ (HT.out.below hI.bel)).mono (fun e w1 h => ⟨h.1, hI.call h.2⟩)) ?k54
  case r54 =>
    intro w0
    go_simp
  simp only [Act.put, List.setIfInBounds_toArray, List.set_cons_zero, List.set_cons_succ]
  refine Two.take (i := 43) (N := 61) (v := ?v55) #[true, true, true, true, true, true, true, true, true, true, true, true, true, true, true, true, true, true, true, true, true, true, true, true, true, true, true, true, true, true, true, true, true, true, true, true, true, true, true, true, true, true, true, true, true, false, false, true, true, true, true, true, true, true, true, true, false, false, false] rfl rfl rfl (by decide) (by kernel_rfl) (by kernel_rfl) (fun _ _ _ h => h) (Or.inl ⟨by rfl, ?y55⟩) ?k55
  case y55 =>
    intro w0 hS
    clear hS
    go_simp
    with_reducible rfl
  simp only [Act.put, List.setIfInBounds_toArray, List.set_cons_zero, List.set_cons_succ]
  refine Two.call (i := 45) (N := 63) (f := 22) (args := #[.string ph]) (v := .int .i64 x3) hAl #[true, true, true, true, true, true, true, true, true, true, true, true, true, true, true, true, true, true, true, true, true, true, true, true, true, true, true, true, true, true, true, true, true, true, true, true, true, true, true, true, true, true, true, true, true, true, false, true, true, true, true, true, true, true, true, true, false, false, false] rfl rfl rfl (by decide) (by kernel_rfl) (by kernel_rfl) rfl ?r56 (fun g w0 hI => (X3.out _ (HT.out.below hI.bel)).mono (fun e w1 h => ⟨h.1, hI.call h.2⟩)) ?k56
  case r56 =>
    intro w0
    go_simp
  simp only [Act.put, List.setIfInBounds_toArray, List.set_cons_zero, List.set_cons_succ]
  refine Two.take (i := 46) (N := 64) (v := ?v57) #[true, true, true, true, true, true, true, true, true, true, true, true, true, true, true, true, true, true, true, true, true, true, true, true, true, true, true, true, true, true, true, true, true, true, true, true, true, true, true, true, true, true, true, true, true, true, true, true, true, true, true, true, true, true, true, true, false, false, false] rfl rfl rfl (by decide) (by kernel_rfl) (by kernel_rfl) (fun _ _ _ h => h) (Or.inl ⟨by rfl, ?y57⟩) ?k57
  case y57 =>
    intro w0 hS
    clear hS
    go_simp
    with_reducible rfl
  simp only [Act.put, List.setIfInBounds_toArray, List.set_cons_zero, List.set_cons_succ]
  refine Two.take (i := 56) (N := 74) (v := ?v58) #[true, true, true, true, true, true, true, true, true, true, true, true, true, true, true, true, true, true, true, true, true, true, true, true, true, true, true, true, true, true, true, true, true, true, true, true, true, true, true, true, true, true, true, true, true, true, true, true, true, true, true, true, true, true, true, true, true, false, false] rfl rfl rfl (by decide) (by kernel_rfl) (by kernel_rfl) (fun _ _ _ h => h) (Or.inl ⟨by rfl, ?y58⟩) ?k58
  case y58 =>
    intro w0 hS
    clear hS
    go_simp
    with_reducible rfl
  simp only [Act.put, List.setIfInBounds_toArray, List.set_cons_zero, List.set_cons_succ]
  refine Two.last hAl #[true, true, true, true, true, true, true, true, true, true, true, true, true, true, true, true, true, true, true, true, true, true, true, true, true, true, true, true, true, true, true, true, true, true, true, true, true, true, true, true, true, true, true, true, true, true, true, true, true, true, true, true, true, true, true, true, true, true, false] rfl (by kernel_rfl) (fun G w0 hI => ?k59)
  simp only [Act.put, List.setIfInBounds_toArray, List.set_cons_zero, List.set_cons_succ]
  rw [hRB.out, hRU.out, hRC.out, hRX.out, hRN.out]
  clear hRB hRU hRC hRX hRN
  have K9 := hI.done HM.out RB RU RC RX RN mh pt
  obtain ⟨⟨gb, gu, gc, gx, gn, gh, gt, gq⟩, -⟩ := hI.al G rfl
  obtain ⟨q0, q1, q2, q3, q4, q5, q6⟩ := gq.cs
  have f0 := gq.fz 0
  have f1 := gq.fz 1
  have f2 := gq.fz 2
  have f3 := gq.fz 3
  have f4 := gq.fz 4
  have f5 := gq.fz 5
  have f6 := gq.fz 6
  refine wpAnyH_ready (rs := [58]) (by kernel_rfl) (by simp) ?_
  refine AllReadyH.cons rfl (fun K1 hK1 => ?_) AllReadyH.nil
  go_simp
  clear q0 q1 q2 q3 q4 q5 q6 f0 f1 f2 f3 f4 f5 f6 gq hI
  refine hK1.out _ _ ⟨_, K9.pi⟩ (fun hHeld => ?_)
  clear hK1 K1 hHeld hAl
  refine wpAnyH_done (by kernel_rfl) ?_ _
  revert K9
  generalize ((((((w0.setCell ⟨G, 0, none⟩ (.int .i64 RB)).setCell ⟨G, 1, none⟩ (.int .i64 RU)).setCell ⟨G, 2, none⟩ (.int .i64 RC)).setCell ⟨G, 3, none⟩ (.int .i64 RX)).setCell ⟨G, 4, none⟩ (.int .i64 RN)).setCell ⟨G, 5, none⟩ (.string mh)).setCell ⟨G, 6, none⟩ (.string pt) = W9
  intro K9
  clear U1 U2 U3 C1 C2 C3 X1 X2 X3 HT hu1 hu2 hu3 hc1 hc2 hc3 hx1 hx2 hx3
  refine hK.out _ _ ?_
  clear hK K
  have e5 := K9.ha.cs.2.2.2.2.2.1
  have b5 := K9.hb.cs.2.2.2.2.2.1
  have g5 := K9.hg.cs.2.2.2.2.2.1
  have z5 := K9.hg.fz 5
  go_upto_if 78 with fail
  go_cut [8] (fun v W => v = .pointer (some ⟨G, 0, none⟩) ∧ Hid (PJ w A0 A M G mb mu mc mx mn mh mt pb pu pc px pn ph pt RB RU RC RX RN HR pt W))
  case first =>
    by_cases h : mh.size < 16
    · have h' : (mh.size : Int) < 16 := by omega
      have s6 := s4.out h
      have hh : hdR mh ph = ⟨(hd (mh ++ ph).data.toList).toArray⟩ := if_pos h
      rw [hHR.out] at hh
      replace hh := Lib.hid hh
      go_wp2_with (first | (go_at_call 47; (refine (H1.out h _).mono ?_); rintro e w1 ⟨rfl, rfl⟩))
      go_meet
      refine ⟨rfl, ?_⟩
      rw [hh.out]
      exact K9.h5 _
    · have h' : ¬ ((mh.size : Int) < 16) := by omega
      have hh : hdR mh ph = mh := if_neg h
      rw [hHR.out] at hh
      replace hh := Lib.hid hh
      go_wp2_with fail
      go_meet
      refine ⟨rfl, ?_⟩
      rw [hh.out]
      exact K9
  case rest =>
    obtain ⟨rfl, K10⟩ := hcut
    replace K10 := K10.out
    clear e5 b5 g5 z5 K9 W9
    have e5 := K10.ha.cs.2.2.2.2.2.2
    have b5 := K10.hb.cs.2.2.2.2.2.2
    have g5 := K10.hg.cs.2.2.2.2.2.2
    have z5 := K10.hg.fz 6
    have m6 := K10.ha.cs.2.2.2.2.2.2
    go_upto_if 89 with fail
    go_cut [8] (fun v W => v = .pointer (some ⟨G, 0, none⟩) ∧ Hid (PJ w A0 A M G mb mu mc mx mn mh mt pb pu pc px pn ph pt RB RU RC RX RN HR TR W))
    case first =>
      by_cases h : pt.size < 16
      · have h' : (pt.size : Int) < 16 := by omega
        have s6 := s5.out h
        have hh : tlR mt pt = ⟨(tl (mt ++ pt).data.toList).toArray⟩ := if_pos h
        rw [hTR.out] at hh
        replace hh := Lib.hid hh
        go_wp2_with (first | (go_at_call 48; (refine (T1.out h _).mono ?_); rintro e w1 ⟨rfl, rfl⟩))
        go_meet
        refine ⟨rfl, ?_⟩
        rw [hh.out]
        exact K10.h6 _
      · have h' : ¬ ((pt.size : Int) < 16) := by omega
        have hh : tlR mt pt = pt := if_neg h
        rw [hTR.out] at hh
        replace hh := Lib.hid hh
        go_wp2_with fail
        go_meet
        refine ⟨rfl, ?_⟩
        rw [hh.out]
        exact K10
    case rest =>
      obtain ⟨rfl, K11⟩ := hcut
      replace K11 := K11.out
      clear e5 b5 g5 z5 m6 K10
      obtain ⟨g0, g1, g2, g3, g4, g5, g6⟩ := K11.hg.cs
      obtain ⟨m0, m1, m2, m3, m4, m5, m6⟩ := K11.hm.cs
      have f0 := K11.hm.fz 0
      have f1 := K11.hm.fz 1
      have f2 := K11.hm.fz 2
      have f3 := K11.hm.fz 3
      have f4 := K11.hm.fz 4
      have f5 := K11.hm.fz 5
      have f6 := K11.hm.fz 6
      go_wp2_with fail
      have hF := set7b (a0 := .int .i64 RB) (a1 := .int .i64 RU) (a2 := .int .i64 RC) (a3 := .int .i64 RX) (a4 := .int .i64 RN) (a5 := .string HR) (a6 := .string TR) K11.hm
      have hB := set7l (a0 := .int .i64 RB) (a1 := .int .i64 RU) (a2 := .int .i64 RC) (a3 := .int .i64 RX) (a4 := .int .i64 RN) (a5 := .string HR) (a6 := .string TR) K11.bel K11.lt.2.2.2.2
      obtain ⟨d0, d1, d2, d3, d4, d5, d6⟩ := BxR.cs hF
      refine bodyPost_ret (v := .agg #[.int .i64 RB, .int .i64 RU, .int .i64 RC, .int .i64 RX, .int .i64 RN, .string HR, .string TR]) (by simp [results, Tryd.results44, go_sem, d0, d1, d2, d3, d4, d5, d6]) rfl ⟨rfl, hB⟩
end Go.Proofs.YtoodidokjchplaaDoor.Un
