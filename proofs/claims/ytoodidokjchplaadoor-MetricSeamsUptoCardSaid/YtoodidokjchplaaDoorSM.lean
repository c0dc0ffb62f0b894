/- MetricSeams: walked. -/
import Derived.Test.YtoodidokjchplaaDoorHM
import Derived.Test.YtoodidokjchplaaDoorFB
namespace Go.Proofs.YtoodidokjchplaaDoor.Un
open Go Go.RowKit Go.Shelf
open Go.Proofs.YtoodidokjchplaaDoor.Wk (bcell bel_drew bel_drewN bel_alloc bel_set bel_call size_len blk_cell blk_below blk_lt mk_data)
set_option linter.unusedVariables false
set_option linter.unusedSimpArgs false
attribute [local go_sem high] eqA26
theorem tlU (m a : List UInt8) (h : 16 ≤ a.length) : tl (m ++ tl a) = tl a := by
  unfold tl
  rw [back_app (by rw [back_len]; omega), back_back a (Nat.le_refl _)]
theorem hdV (b f : List UInt8) (h : 16 ≤ b.length) : hd (hd b ++ f) = hd b := by
  unfold hd
  rw [List.take_append_of_le_length (by rw [List.length_take]; omega), List.take_take]
  rfl
theorem seams_num {A B U V : List UInt8} (h1 : tl U = tl A) (h2 : hd V = hd B) :
    (cU (A ++ B) : Int) - cU A - cU B = cU (U ++ V) - cU U - cU V ∧ (cC (A ++ B) : Int) - cC A - cC B = cC (U ++ V) - cC U - cC V ∧ cX (A ++ B) - cX A - cX B = cX (U ++ V) - cX U - cX V := by
  refine ⟨?_, ?_, ?_⟩
  · rw [seamU, seamU U V, h1, h2]
  · rw [seamC, seamC U V, h1, h2]
  · rw [seamX, seamX U V, h1, h2]
theorem mR_num {l : List UInt8} {b u c x n : Int} {h t : ByteArray} (e : mR l = ⟨b, u, c, x, n, h, t⟩) : u = cU l ∧ c = cC l ∧ x = cX l ∧ h = ⟨(hd l).toArray⟩ ∧ t = ⟨(tl l).toArray⟩ := by
  unfold mR toR meas at e
  simp only [Sr.mk.injEq] at e
  exact ⟨e.2.1.symm, e.2.2.1.symm, e.2.2.2.1.symm, e.2.2.2.2.2.1.symm, e.2.2.2.2.2.2.symm⟩
theorem num_le (l : List UInt8) (h : l.length ≤ 1000000000) : (cU l : Int) ≤ 1000000000 ∧ (cC l : Int) ≤ 1000000000 ∧ 0 ≤ cX l ∧ cX l ≤ 2000000000 := by
  have := cU_le l; have := cC_le l; have := cX_le l
  omega
structure SI (w : World) (X Y Z : Nat) (p q r : Sr) (g k : Option Nat) (W : World) : Prop where
  hz : HZ w X Y Z p q r W
  ga : ∀ G, g = some G → (∃ b u c x n h t, BxR W G b u c x n h t) ∧ X < G ∧ Y < G ∧ Z < G ∧ w.heap.size ≤ G
  ka : ∀ G, k = some G → (∃ b u c x n h t, BxR W G b u c x n h t) ∧ X < G ∧ Y < G ∧ Z < G ∧ w.heap.size ≤ G
  ne : ∀ G K, g = some G → k = some K → G ≠ K
theorem SI.call {w W W' : World} {X Y Z : Nat} {p q r : Sr} {g k : Option Nat} (h : SI w X Y Z p q r g k W) (hB : Below W.heap.size W W') : SI w X Y Z p q r g k W' :=
  ⟨h.hz.call hB, fun G hG => by
    obtain ⟨⟨b, u, c, x, n, hh, t, q⟩, r⟩ := h.ga G hG
    exact ⟨⟨b, u, c, x, n, hh, t, blk_below q hB⟩, r⟩, fun G hG => by
    obtain ⟨⟨b, u, c, x, n, hh, t, q⟩, r⟩ := h.ka G hG
    exact ⟨⟨b, u, c, x, n, hh, t, blk_below q hB⟩, r⟩, h.ne⟩
theorem SI.alg {w W : World} {X Y Z : Nat} {p q r : Sr} {k : Option Nat} (h : SI w X Y Z p q r none k W) : SI w X Y Z p q r (some W.heap.size) k (W.alloc (.cells #[.int .i64 0, .int .i64 0, .int .i64 0, .int .i64 0, .int .i64 0, .string ⟨#[]⟩, .string ⟨#[]⟩] 26)) :=
  ⟨h.hz.al _, fun G hG => by
    cases hG
    exact ⟨⟨_, _, _, _, _, _, _, heap_alloc_new _ _⟩, blk_lt h.hz.hx, blk_lt h.hz.hy, blk_lt h.hz.hz, h.hz.bel.size⟩, fun G hG => by
    obtain ⟨⟨b, u, c, x, n, hh, t, q⟩, r⟩ := h.ka G hG
    exact ⟨⟨b, u, c, x, n, hh, t, Wk.blk_alloc q _⟩, r⟩, fun G K hG hK => by
    cases hG
    obtain ⟨⟨b, u, c, x, n, hh, t, q⟩, r⟩ := h.ka K hK
    have := blk_lt q
    omega⟩
theorem SI.alk {w W : World} {X Y Z : Nat} {p q r : Sr} {g : Option Nat} (h : SI w X Y Z p q r g none W) : SI w X Y Z p q r g (some W.heap.size) (W.alloc (.cells #[.int .i64 0, .int .i64 0, .int .i64 0, .int .i64 0, .int .i64 0, .string ⟨#[]⟩, .string ⟨#[]⟩] 26)) :=
  ⟨h.hz.al _, fun G hG => by
    obtain ⟨⟨b, u, c, x, n, hh, t, q⟩, r⟩ := h.ga G hG
    exact ⟨⟨b, u, c, x, n, hh, t, Wk.blk_alloc q _⟩, r⟩, fun G hG => by
    cases hG
    exact ⟨⟨_, _, _, _, _, _, _, heap_alloc_new _ _⟩, blk_lt h.hz.hx, blk_lt h.hz.hy, blk_lt h.hz.hz, h.hz.bel.size⟩, fun G K hG hK => by
    cases hK
    obtain ⟨⟨b, u, c, x, n, hh, t, q⟩, r⟩ := h.ga G hG
    have := blk_lt q
    omega⟩
theorem SI.none2 {w W : World} {X Y Z : Nat} {p q r : Sr} (h : HZ w X Y Z p q r W) : SI w X Y Z p q r none none W := ⟨h, fun G hG => (by cases hG), fun G hG => (by cases hG), fun G K hG => (by cases hG)⟩
/-- The five boxes ahead of the last one. -/
structure S5 (w : World) (X Y Z G K : Nat) (p q r u v : Sr) (W : World) : Prop where
  hz : HZ w X Y Z p q r W
  hg : BxR W G u.b u.u u.c u.x u.n u.h u.t
  hk : BxR W K v.b v.u v.c v.x v.n v.h v.t
  lt : X < G ∧ Y < G ∧ Z < G ∧ X < K ∧ Y < K ∧ Z < K ∧ G ≠ K ∧ w.heap.size ≤ G ∧ w.heap.size ≤ K
def set7 (W : World) (G : Nat) (u : Sr) : World := (((((((W.setCell ⟨G, 0, none⟩ (.int .i64 u.b)).setCell ⟨G, 1, none⟩ (.int .i64 u.u)).setCell ⟨G, 2, none⟩ (.int .i64 u.c)).setCell ⟨G, 3, none⟩ (.int .i64 u.x)).setCell ⟨G, 4, none⟩ (.int .i64 u.n)).setCell ⟨G, 5, none⟩ (.string u.h)).setCell ⟨G, 6, none⟩ (.string u.t))
theorem HZ.set {w W : World} {X Y Z G : Nat} {p q r : Sr} (h : HZ w X Y Z p q r W) (hl : X < G ∧ Y < G ∧ Z < G ∧ w.heap.size ≤ G) (u : Sr) : HZ w X Y Z p q r (set7 W G u) :=
  ⟨far7 h.hx (by omega), far7 h.hy (by omega), far7 h.hz (by omega), set7l h.bel hl.2.2.2⟩
theorem SI.done {w W : World} {X Y Z G K : Nat} {p q r : Sr} (h : SI w X Y Z p q r (some G) (some K) W) (u v : Sr) : S5 w X Y Z G K p q r u v (set7 (set7 W G u) K v) := by
  obtain ⟨⟨b, u', c, x, n, hh, t, qg⟩, g1, g2, g3, g4⟩ := h.ga G rfl
  obtain ⟨⟨b', u'', c', x', n', hh', t', qk⟩, k1, k2, k3, k4⟩ := h.ka K rfl
  have hne := h.ne G K rfl rfl
  exact ⟨(h.hz.set ⟨g1, g2, g3, g4⟩ u).set ⟨k1, k2, k3, k4⟩ v, far7 (set7b qg) hne, set7b (far7 qk (Ne.symm hne)), g1, g2, g3, k1, k2, k3, hne, g4, k4⟩
theorem SI.setG {w W : World} {X Y Z G K : Nat} {p q r : Sr} (h : SI w X Y Z p q r (some G) (some K) W) (u : Sr) : SI w X Y Z p q r (some G) (some K) (set7 W G u) := by
  obtain ⟨⟨b, u', c, x, n, hh, t, qg⟩, g1, g2, g3, g4⟩ := h.ga G rfl
  obtain ⟨⟨b', u'', c', x', n', hh', t', qk⟩, k1, k2, k3, k4⟩ := h.ka K rfl
  have hne := h.ne G K rfl rfl
  exact ⟨h.hz.set ⟨g1, g2, g3, g4⟩ u, fun G' hG => by cases hG; exact ⟨⟨_, _, _, _, _, _, _, set7b qg⟩, g1, g2, g3, g4⟩, fun G' hG => by cases hG; exact ⟨⟨_, _, _, _, _, _, _, far7 qk (Ne.symm hne)⟩, k1, k2, k3, k4⟩, h.ne⟩
theorem S5.si {w W : World} {X Y Z G K : Nat} {p q r u v : Sr} (h : S5 w X Y Z G K p q r u v W) : SI w X Y Z p q r (some G) (some K) W :=
  ⟨h.hz, fun G' hG => by cases hG; exact ⟨⟨_, _, _, _, _, _, _, h.hg⟩, h.lt.1, h.lt.2.1, h.lt.2.2.1, h.lt.2.2.2.2.2.2.2.1⟩, fun G' hG => by cases hG; exact ⟨⟨_, _, _, _, _, _, _, h.hk⟩, h.lt.2.2.2.1, h.lt.2.2.2.2.1, h.lt.2.2.2.2.2.1, h.lt.2.2.2.2.2.2.2.2⟩, fun G' K' hG hK => by cases hG; cases hK; exact h.lt.2.2.2.2.2.2.1⟩
theorem S5.setG {w W : World} {X Y Z G K : Nat} {p q r u v : Sr} (h : S5 w X Y Z G K p q r u v W) (m : Sr) : S5 w X Y Z G K p q r m v (set7 W G m) :=
  ⟨h.hz.set ⟨h.lt.1, h.lt.2.1, h.lt.2.2.1, h.lt.2.2.2.2.2.2.2.1⟩ m, set7b h.hg, far7 h.hk (Ne.symm h.lt.2.2.2.2.2.2.1), h.lt⟩
theorem S5.setK {w W : World} {X Y Z G K : Nat} {p q r u v : Sr} (h : S5 w X Y Z G K p q r u v W) (m : Sr) : S5 w X Y Z G K p q r u m (set7 W K m) :=
  ⟨h.hz.set ⟨h.lt.2.2.2.1, h.lt.2.2.2.2.1, h.lt.2.2.2.2.2.1, h.lt.2.2.2.2.2.2.2.2⟩ m, far7 h.hg h.lt.2.2.2.2.2.2.1, set7b h.hk, h.lt⟩
theorem S5.call {w W W' : World} {X Y Z G K : Nat} {p q r u v : Sr} (h : S5 w X Y Z G K p q r u v W) (hB : Below W.heap.size W W') : S5 w X Y Z G K p q r u v W' :=
  ⟨h.hz.call hB, blk_below h.hg hB, blk_below h.hk hB, h.lt⟩
theorem S5.al {w W : World} {X Y Z G K : Nat} {p q r u v : Sr} (h : S5 w X Y Z G K p q r u v W) (ob : Obj) : S5 w X Y Z G K p q r u v (W.alloc ob) :=
  ⟨h.hz.al ob, Wk.blk_alloc h.hg ob, Wk.blk_alloc h.hk ob, h.lt⟩
theorem two_bx (w : World) (p q : Sr) : ∃ W, W = (w.alloc (.cells #[.int .i64 p.b, .int .i64 p.u, .int .i64 p.c, .int .i64 p.x, .int .i64 p.n, .string p.h, .string p.t] 26)).alloc (.cells #[.int .i64 q.b, .int .i64 q.u, .int .i64 q.c, .int .i64 q.x, .int .i64 q.n, .string q.h, .string q.t] 26) ∧
    BxR W w.heap.size p.b p.u p.c p.x p.n p.h p.t ∧ BxR W (w.heap.size + 1) q.b q.u q.c q.x q.n q.h q.t ∧ Below w.heap.size w W ∧ W.heap.size = w.heap.size + 2 := by
  have h1 := heap_alloc_new w (.cells #[.int .i64 p.b, .int .i64 p.u, .int .i64 p.c, .int .i64 p.x, .int .i64 p.n, .string p.h, .string p.t] 26)
  have h2 := heap_alloc_new (w.alloc (.cells #[.int .i64 p.b, .int .i64 p.u, .int .i64 p.c, .int .i64 p.x, .int .i64 p.n, .string p.h, .string p.t] 26)) (.cells #[.int .i64 q.b, .int .i64 q.u, .int .i64 q.c, .int .i64 q.x, .int .i64 q.n, .string q.h, .string q.t] 26)
  rw [Wk.size_alloc] at h2
  exact ⟨_, rfl, Wk.blk_alloc h1 _, h2, bel_alloc (bel_alloc (Below.refl _ _) _) _, by rw [Wk.size_alloc, Wk.size_alloc]⟩
set_option maxRecDepth 100000 in
set_option maxHeartbeats 4000000 in
theorem seams_calls (a b more far : ByteArray) (hs : a.size + b.size + more.size + far.size ≤ 400000000) (w : World) (hT : Tb w) :
    Calls Tryd.prog 6 #[.string a, .string b, .string more, .string far] w fun e w' => e = .returned (.bool true) ∧ Below w.heap.size w w' := by
  have HT := Lib.hid hT
  clear hT
  have K := Lib.hid (fun W hW => counts_calls W hW)
  have la := size_len a
  have lb := size_len b
  have lm := size_len more
  have lf := size_len far
  obtain ⟨A, hA⟩ : ∃ A, a.data.toList = A := ⟨_, rfl⟩
  obtain ⟨B, hB⟩ : ∃ B, b.data.toList = B := ⟨_, rfl⟩
  obtain ⟨M, hM⟩ : ∃ M, more.data.toList = M := ⟨_, rfl⟩
  obtain ⟨F, hF⟩ : ∃ F, far.data.toList = F := ⟨_, rfl⟩
  rw [hA] at la
  rw [hB] at lb
  rw [hM] at lm
  rw [hF] at lf
  obtain ⟨U, hU⟩ : ∃ U, (if a.size < 16 then A else M ++ tl A) = U := ⟨_, rfl⟩
  obtain ⟨V, hV⟩ : ∃ V, (if b.size < 16 then B else hd B ++ F) = V := ⟨_, rfl⟩
  have tA := tl_le A
  have hBl := hd_le B
  have lMA : (M ++ tl A).length = M.length + (tl A).length := List.length_append
  have lBF : (hd B ++ F).length = (hd B).length + F.length := List.length_append
  have lU : U.length ≤ 400000016 := by rw [← hU]; split <;> omega
  have lV : V.length ≤ 400000016 := by rw [← hV]; split <;> omega
  have hs1 : tl U = tl A := by
    rw [← hU]; split
    · rfl
    · exact tlU M A (by omega)
  have hs2 : hd V = hd B := by
    rw [← hV]; split
    · rfl
    · exact hdV B F (by omega)
  have HN := seams_num hs1 hs2
  have nA := num_le A (by omega)
  have nB := num_le B (by omega)
  have nAB := num_le (A ++ B) (by rw [List.length_append]; omega)
  have nU := num_le U (by omega)
  have nV := num_le V (by omega)
  have nUV := num_le (U ++ V) (by rw [List.length_append]; omega)
  obtain ⟨r1, e1⟩ : ∃ r, mR (A) = r := ⟨_, rfl⟩
  obtain ⟨b1, u1, c1, x1, n1, h1, t1⟩ := r1
  obtain ⟨r2, e2⟩ : ∃ r, mR (B) = r := ⟨_, rfl⟩
  obtain ⟨b2, u2, c2, x2, n2, h2, t2⟩ := r2
  obtain ⟨r4, e4⟩ : ∃ r, mR (A ++ B) = r := ⟨_, rfl⟩
  obtain ⟨b4, u4, c4, x4, n4, h4, t4⟩ := r4
  obtain ⟨r5, e5⟩ : ∃ r, mR (M ++ tl A) = r := ⟨_, rfl⟩
  obtain ⟨b5, u5, c5, x5, n5, h5, t5⟩ := r5
  obtain ⟨r6, e6⟩ : ∃ r, mR (hd B ++ F) = r := ⟨_, rfl⟩
  obtain ⟨b6, u6, c6, x6, n6, h6, t6⟩ := r6
  obtain ⟨r7, e7⟩ : ∃ r, mR (U ++ V) = r := ⟨_, rfl⟩
  obtain ⟨b7, u7, c7, x7, n7, h7, t7⟩ := r7
  obtain ⟨r8, e8⟩ : ∃ r, mR (U) = r := ⟨_, rfl⟩
  obtain ⟨b8, u8, c8, x8, n8, h8, t8⟩ := r8
  obtain ⟨r9, e9⟩ : ∃ r, mR (V) = r := ⟨_, rfl⟩
  obtain ⟨b9, u9, c9, x9, n9, h9, t9⟩ := r9
  obtain ⟨g1a, g1b, g1c, g1d, g1e⟩ := mR_num e1
  obtain ⟨g2a, g2b, g2c, g2d, g2e⟩ := mR_num e2
  obtain ⟨g4a, g4b, g4c, g4d, g4e⟩ := mR_num e4
  obtain ⟨g7a, g7b, g7c, g7d, g7e⟩ := mR_num e7
  obtain ⟨g8a, g8b, g8c, g8d, g8e⟩ := mR_num e8
  obtain ⟨g9a, g9b, g9c, g9d, g9e⟩ := mR_num e9
  have hMA : (more ++ t1).data.toList = M ++ tl A := by rw [g1e]; simp [hM]
  have hBF : (h2 ++ far).data.toList = hd B ++ F := by rw [g2d]; simp [hF]
  have z1 : t1.size = (tl A).length := by rw [g1e, ← size_len]
  have z2 : h2.size = (hd B).length := by rw [g2d, ← size_len]
  have MA := Lib.hid (fun W hW => measR a (by first | omega | (rw [ByteArray.size_append]; omega)) ((congrArg mR hA).trans e1) W hW)
  have MB := Lib.hid (fun W hW => measR b (by first | omega | (rw [ByteArray.size_append]; omega)) ((congrArg mR hB).trans e2) W hW)
  have MU := Lib.hid (fun W hW => measR (more ++ t1) (by first | omega | (rw [ByteArray.size_append]; omega)) ((congrArg mR hMA).trans e5) W hW)
  have MV := Lib.hid (fun W hW => measR (h2 ++ far) (by first | omega | (rw [ByteArray.size_append]; omega)) ((congrArg mR hBF).trans e6) W hW)
  have J1 := Lib.hid (fun W Ad cp hR hT => joinLE (A := Ad) (n := 2) (c := cp) (W := W) [A, B] (l := A ++ B) (by simp) (by rw [List.length_append]; omega) rfl [⟨b1, u1, c1, x1, n1, h1, t1⟩, ⟨b2, u2, c2, x2, n2, h2, t2⟩] (by simp only [List.map_cons, List.map_nil, e1, e2]) hT e4 (by simp) hR)
  have J2 := Lib.hid (fun W Ad cp hR hT => joinLE (A := Ad) (n := 2) (c := cp) (W := W) [U, V] (l := U ++ V) (by simp) (by rw [List.length_append]; omega) rfl [⟨b8, u8, c8, x8, n8, h8, t8⟩, ⟨b9, u9, c9, x9, n9, h9, t9⟩] (by simp only [List.map_cons, List.map_nil, e8, e9]) hT e7 (by simp) hR)
  have wu0 : IntKind.i64.wrap (u4 - u1) = u4 - u1 := w64_id (by omega)
  have wu1 : IntKind.i64.wrap (u4 - u1 - u2) = u4 - u1 - u2 := w64_id (by omega)
  have wu2 : IntKind.i64.wrap (u7 - u8) = u7 - u8 := w64_id (by omega)
  have wu3 : IntKind.i64.wrap (u7 - u8 - u9) = u7 - u8 - u9 := w64_id (by omega)
  have qu : ((u4 - u1 - u2 == u7 - u8 - u9) : Bool) = true := by rw [beq_iff_eq, g4a, g1a, g2a, g7a, g8a, g9a]; exact HN.1
  have wc0 : IntKind.i64.wrap (c4 - c1) = c4 - c1 := w64_id (by omega)
  have wc1 : IntKind.i64.wrap (c4 - c1 - c2) = c4 - c1 - c2 := w64_id (by omega)
  have wc2 : IntKind.i64.wrap (c7 - c8) = c7 - c8 := w64_id (by omega)
  have wc3 : IntKind.i64.wrap (c7 - c8 - c9) = c7 - c8 - c9 := w64_id (by omega)
  have qc : ((c4 - c1 - c2 == c7 - c8 - c9) : Bool) = true := by rw [beq_iff_eq, g4b, g1b, g2b, g7b, g8b, g9b]; exact HN.2.1
  have wx0 : IntKind.i64.wrap (x4 - x1) = x4 - x1 := w64_id (by omega)
  have wx1 : IntKind.i64.wrap (x4 - x1 - x2) = x4 - x1 - x2 := w64_id (by omega)
  have wx2 : IntKind.i64.wrap (x7 - x8) = x7 - x8 := w64_id (by omega)
  have wx3 : IntKind.i64.wrap (x7 - x8 - x9) = x7 - x8 - x9 := w64_id (by omega)
  have qx : ((x4 - x1 - x2 == x7 - x8 - x9) : Bool) = true := by rw [beq_iff_eq, g4c, g1c, g2c, g7c, g8c, g9c]; exact HN.2.2
  have s1 : ¬ (9223372036854775807 < more.size + t1.size) := by omega
  have s2 : ¬ (9223372036854775807 < h2.size + far.size) := by omega
  have i8a : a.size < 16 → (⟨b8, u8, c8, x8, n8, h8, t8⟩ : Sr) = ⟨b1, u1, c1, x1, n1, h1, t1⟩ := fun h => by rw [← e8, ← e1, ← hU, if_pos h]
  have i8b : ¬ a.size < 16 → (⟨b8, u8, c8, x8, n8, h8, t8⟩ : Sr) = ⟨b5, u5, c5, x5, n5, h5, t5⟩ := fun h => by rw [← e8, ← e5, ← hU, if_neg h]
  have i9a : b.size < 16 → (⟨b9, u9, c9, x9, n9, h9, t9⟩ : Sr) = ⟨b2, u2, c2, x2, n2, h2, t2⟩ := fun h => by rw [← e9, ← e2, ← hV, if_pos h]
  have i9b : ¬ b.size < 16 → (⟨b9, u9, c9, x9, n9, h9, t9⟩ : Sr) = ⟨b6, u6, c6, x6, n6, h6, t6⟩ := fun h => by rw [← e9, ← e6, ← hV, if_neg h]
  replace i8a := Lib.hid i8a
  replace i8b := Lib.hid i8b
  replace i9a := Lib.hid i9a
  replace i9b := Lib.hid i9b
  clear e1 e2 e4 e5 e6 e7 e8 e9 hs nA nB nAB nU nV nUV HN hs1 hs2 lU lV hU hV tA hBl lMA lBF la lb lm lf hA hB hM hF hMA hBF z1 z2 g1a g1b g1c g1d g1e g2a g2b g2c g2d g2e g4a g4b g4c g4d g4e g7a g7b g7c g7d g7e g8a g8b g8c g8d g8e g9a g9b g9c g9d g9e
  go_enter Tryd.func6, Tryd.ntmps6
  go_upto_region 4 with (first
    | (go_at_call 15; (with_reducible refine (K.out _ HT.out).mono ?_); rintro e w1 ⟨rfl, k1⟩)
    | (go_at_call 19; (with_reducible refine (MA.out _ (HT.out.below k1)).mono ?_); rintro e w2 ⟨rfl, g2⟩; have k2 := bel_call k1 g2; clear g2)
    | (go_at_call 19; (with_reducible refine (MB.out _ (HT.out.below k2)).mono ?_); rintro e w3 ⟨rfl, g3⟩; have k3 := bel_call k2 g3; clear g3))
  obtain ⟨W, hW, d1, d2, d3, d4⟩ := two_bx w3 ⟨b1, u1, c1, x1, n1, h1, t1⟩ ⟨b2, u2, c2, x2, n2, h2, t2⟩
  simp only at hW
  rw [← hW]
  clear hW
  obtain ⟨X, hX⟩ : ∃ X, w3.heap.size = X := ⟨_, rfl⟩
  rw [hX] at d1 d2 d4
  rw [hX]
  obtain ⟨Y, hY⟩ : ∃ Y, X + 1 = Y := ⟨_, rfl⟩
  rw [hY] at d2
  rw [hY]
  have Z0 : HZ w X Y Y ⟨b1, u1, c1, x1, n1, h1, t1⟩ ⟨b2, u2, c2, x2, n2, h2, t2⟩ ⟨b2, u2, c2, x2, n2, h2, t2⟩ W := ⟨d1, d2, d2, bel_call k3 d3⟩
  clear hX hY d1 d2 d3 d4 k1 k2 k3 MA MB K
  obtain ⟨y0, y1, y2, y3, y4, y5, y6⟩ := Z0.hx.cs; obtain ⟨z0, z1, z2, z3, z4, z5, z6⟩ := Z0.hy.cs
  go_upto_region 5 with (first
    | (go_at_call 17; (with_reducible refine (J1.out _ _ _ (rds2 _ _ (heap_alloc_new _ _)) (HT.out.below (Z0.al _).bel)).mono ?_); rintro e w5 ⟨rfl, g5⟩; have Z1 := (Z0.al _).call g5; clear g5))
  have S0 : SI w X Y w5.heap.size ⟨b1, u1, c1, x1, n1, h1, t1⟩ ⟨b2, u2, c2, x2, n2, h2, t2⟩ ⟨b4, u4, c4, x4, n4, h4, t4⟩ none none (w5.alloc (.cells #[.int .i64 b4, .int .i64 u4, .int .i64 c4, .int .i64 x4, .int .i64 n4, .string h4, .string t4] 26)).drew := ⟨HZ.dr ⟨Wk.blk_alloc Z1.hx _, Wk.blk_alloc Z1.hy _, heap_alloc_new _ _, bel_alloc Z1.bel _⟩, (fun G hG => by cases hG), (fun G hG => by cases hG), (fun G K hG => by cases hG)⟩
  clear Z0 Z1 J1 y0 y1 y2 y3 y4 y5 y6 z0 z1 z2 z3 z4 z5 z6
  obtain ⟨W1, hW1⟩ : ∃ W1, w5.alloc (.cells #[.int .i64 b4, .int .i64 u4, .int .i64 c4, .int .i64 x4, .int .i64 n4, .string h4, .string t4] 26) = W1 := ⟨_, rfl⟩
  obtain ⟨Jb, hJb⟩ : ∃ Jb, w5.heap.size = Jb := ⟨_, rfl⟩
  rw [hW1, hJb] at S0
  rw [hW1, hJb]
  clear hW1 hJb
  rename_i KK hKK
  replace hKK := Lib.hid hKK
  refine Four.start (I := SI w X Y Jb ⟨b1, u1, c1, x1, n1, h1, t1⟩ ⟨b2, u2, c2, x2, n2, h2, t2⟩ ⟨b4, u4, c4, x4, n4, h4, t4⟩) (d1 := 12) (i1 := 10) (d2 := 13) (i2 := 11) (n := 12) #[false, false, false, false, false, false, false, false, false, false, false, false, false, false] (by kernel_rfl) rfl rfl S0 ?ho (fun hAl => ?h)
  case ho => exact ⟨⟨_, rfl, rfl, fun a => rfl, .cells #[.int .i64 0, .int .i64 0, .int .i64 0, .int .i64 0, .int .i64 0, .string ⟨#[]⟩, .string ⟨#[]⟩] 26, fun a W => ⟨rfl, fun h => h.alg⟩⟩, fun H => ⟨_, rfl, rfl, fun a => rfl, .cells #[.int .i64 0, .int .i64 0, .int .i64 0, .int .i64 0, .int .i64 0, .string ⟨#[]⟩, .string ⟨#[]⟩] 26, fun a W => ⟨rfl, fun h => h.alg⟩⟩, ⟨_, rfl, rfl, fun a => rfl, .cells #[.int .i64 0, .int .i64 0, .int .i64 0, .int .i64 0, .int .i64 0, .string ⟨#[]⟩, .string ⟨#[]⟩] 26, fun a W => ⟨rfl, fun h => h.alk⟩⟩, fun G => ⟨_, rfl, rfl, fun a => rfl, .cells #[.int .i64 0, .int .i64 0, .int .i64 0, .int .i64 0, .int .i64 0, .string ⟨#[]⟩, .string ⟨#[]⟩] 26, fun a W => ⟨rfl, fun h => h.alk⟩⟩, by decide, by decide⟩
  clear S0
  refine Four.take (i := 0) (N := 25) (v := ?v1) #[true, false, false, false, false, false, false, false, false, false, false, false, false, false] rfl rfl rfl (by decide) (by kernel_rfl) (by kernel_rfl) (fun _ _ _ h => h) (Or.inl ⟨by rfl, ?y1⟩) ?k1
  case y1 =>
    intro w0 hS
    clear hS
    go_simp
    with_reducible rfl
  simp only [Act.put, List.setIfInBounds_toArray, List.set_cons_zero, List.set_cons_succ]
  refine Four.take (i := 1) (N := 26) (v := ?v2) #[true, true, false, false, false, false, false, false, false, false, false, false, false, false] rfl rfl rfl (by decide) (by kernel_rfl) (by kernel_rfl) (fun _ _ _ h => h) (Or.inl ⟨by rfl, ?y2⟩) ?k2
  case y2 =>
    intro w0 hS
    clear hS
    go_simp
    with_reducible rfl
  simp only [Act.put, List.setIfInBounds_toArray, List.set_cons_zero, List.set_cons_succ]
  refine Four.take (i := 2) (N := 27) (v := ?v3) #[true, true, true, false, false, false, false, false, false, false, false, false, false, false] rfl rfl rfl (by decide) (by kernel_rfl) (by kernel_rfl) (fun _ _ _ h => h) (Or.inl ⟨by rfl, ?y3⟩) ?k3
  case y3 =>
    rintro w0 ⟨g, k, hI⟩
    have q := hI.hz.hx.cs.2.2.2.2.2.2
    clear hI
    go_simp
    with_reducible rfl
  simp only [Act.put, List.setIfInBounds_toArray, List.set_cons_zero, List.set_cons_succ]
  refine Four.take (i := 3) (N := 28) (v := ?v4) #[true, true, true, true, false, false, false, false, false, false, false, false, false, false] rfl rfl rfl (by decide) (by kernel_rfl) (by kernel_rfl) (fun _ _ _ h => h) (Or.inl ⟨by rfl, ?y4⟩) ?k4
  case y4 =>
    intro w0 hS
    clear hS
    go_simp
    with_reducible rfl
  simp only [Act.put, List.setIfInBounds_toArray, List.set_cons_zero, List.set_cons_succ]
  refine Four.take (i := 5) (N := 30) (v := ?v5) #[true, true, true, true, false, true, false, false, false, false, false, false, false, false] rfl rfl rfl (by decide) (by kernel_rfl) (by kernel_rfl) (fun _ _ _ h => h) (Or.inl ⟨by rfl, ?y5⟩) ?k5
  case y5 =>
    intro w0 hS
    clear hS
    go_simp
    with_reducible rfl
  simp only [Act.put, List.setIfInBounds_toArray, List.set_cons_zero, List.set_cons_succ]
  refine Four.take (i := 6) (N := 31) (v := ?v6) #[true, true, true, true, false, true, true, false, false, false, false, false, false, false] rfl rfl rfl (by decide) (by kernel_rfl) (by kernel_rfl) (fun _ _ _ h => h) (Or.inl ⟨by rfl, ?y6⟩) ?k6
  case y6 =>
    rintro w0 ⟨g, k, hI⟩
    have q := hI.hz.hy.cs.2.2.2.2.2.1
    clear hI
    go_simp
    with_reducible rfl
  simp only [Act.put, List.setIfInBounds_toArray, List.set_cons_zero, List.set_cons_succ]
  refine Four.take (i := 7) (N := 32) (v := ?v7) #[true, true, true, true, false, true, true, true, false, false, false, false, false, false] rfl rfl rfl (by decide) (by kernel_rfl) (by kernel_rfl) (fun _ _ _ h => h) (Or.inl ⟨by rfl, ?y7⟩) ?k7
  case y7 =>
    intro w0 hS
    clear hS
    go_simp
    with_reducible rfl
  simp only [Act.put, List.setIfInBounds_toArray, List.set_cons_zero, List.set_cons_succ]
  refine Four.take (i := 8) (N := 33) (v := ?v8) #[true, true, true, true, false, true, true, true, true, false, false, false, false, false] rfl rfl rfl (by decide) (by kernel_rfl) (by kernel_rfl) (fun _ _ _ h => h) (Or.inl ⟨by rfl, ?y8⟩) ?k8
  case y8 =>
    intro w0 hS
    clear hS
    go_simp
    with_reducible rfl
  simp only [Act.put, List.setIfInBounds_toArray, List.set_cons_zero, List.set_cons_succ]
  refine Four.call (i := 4) (N := 29) (f := 19) (args := #[.string (more ++ t1)]) (v := .agg #[.int .i64 b5, .int .i64 u5, .int .i64 c5, .int .i64 x5, .int .i64 n5, .string h5, .string t5]) hAl #[true, true, true, true, true, true, true, true, true, false, false, false, false, false] rfl rfl rfl (by decide) (by kernel_rfl) (by kernel_rfl) rfl ?r9 (fun g k w0 hI => (MU.out _ (HT.out.below hI.hz.bel)).mono (fun e w1 h => ⟨h.1, hI.call h.2⟩)) ?k9
  case r9 =>
    intro w0
    go_simp
  simp only [Act.put, List.setIfInBounds_toArray, List.set_cons_zero, List.set_cons_succ]
  refine Four.call (i := 9) (N := 34) (f := 19) (args := #[.string (h2 ++ far)]) (v := .agg #[.int .i64 b6, .int .i64 u6, .int .i64 c6, .int .i64 x6, .int .i64 n6, .string h6, .string t6]) hAl #[true, true, true, true, true, true, true, true, true, true, false, false, false, false] rfl rfl rfl (by decide) (by kernel_rfl) (by kernel_rfl) rfl ?r10 (fun g k w0 hI => (MV.out _ (HT.out.below hI.hz.bel)).mono (fun e w1 h => ⟨h.1, hI.call h.2⟩)) ?k10
  case r10 =>
    intro w0
    go_simp
  simp only [Act.put, List.setIfInBounds_toArray, List.set_cons_zero, List.set_cons_succ]
  refine Four.last hAl #[true, true, true, true, true, true, true, true, true, true, true, true, false, false] rfl (by kernel_rfl) (fun G K w0 hI => ?kl)
  unfold ptrG
  simp only [Act.put, List.setIfInBounds_toArray, List.set_cons_zero, List.set_cons_succ]
  have S1 := hI.done ⟨b5, u5, c5, x5, n5, h5, t5⟩ ⟨b6, u6, c6, x6, n6, h6, t6⟩
  obtain ⟨⟨gb, gu, gc, gx, gn, gh, gt, gq⟩, gl⟩ := hI.ga G rfl
  obtain ⟨⟨kb, ku, kc, kx, kn, kh, kt, kq⟩, kl⟩ := hI.ka K rfl
  have gkne := hI.ne G K rfl rfl
  obtain ⟨q0, q1, q2, q3, q4, q5, q6⟩ := BxR.cs gq
  have f0 := BxR.fz gq 0
  have f1 := BxR.fz gq 1
  have f2 := BxR.fz gq 2
  have f3 := BxR.fz gq 3
  have f4 := BxR.fz gq 4
  have f5 := BxR.fz gq 5
  have f6 := BxR.fz gq 6
  refine wpAnyH_ready (rs := [12]) (by kernel_rfl) (by simp) ?_
  refine AllReadyH.cons rfl (fun K1 hK1 => ?_) AllReadyH.nil
  go_simp
  refine hK1.out _ _ ⟨_, _, hI.setG ⟨b5, u5, c5, x5, n5, h5, t5⟩⟩ (fun hHeld => ?_)
  clear hK1 K1 hHeld
  clear q0 q1 q2 q3 q4 q5 q6 f0 f1 f2 f3 f4 f5 f6
  have kq2 : BxR (set7 w0 G ⟨b5, u5, c5, x5, n5, h5, t5⟩) K kb ku kc kx kn kh kt := far7 kq (Ne.symm gkne)
  unfold set7 at kq2
  obtain ⟨q0, q1, q2, q3, q4, q5, q6⟩ := BxR.cs kq2
  have f0 := BxR.fz kq2 0
  have f1 := BxR.fz kq2 1
  have f2 := BxR.fz kq2 2
  have f3 := BxR.fz kq2 3
  have f4 := BxR.fz kq2 4
  have f5 := BxR.fz kq2 5
  have f6 := BxR.fz kq2 6
  clear kq2 kq gq
  refine wpAnyH_ready (rs := [13]) (by kernel_rfl) (by simp) ?_
  refine AllReadyH.cons rfl (fun K1 hK1 => ?_) AllReadyH.nil
  go_simp
  refine hK1.out _ _ ⟨_, _, S1.si⟩ (fun hHeld => ?_)
  clear hK1 K1 hHeld hAl hI gl kl gkne
  clear q0 q1 q2 q3 q4 q5 q6 f0 f1 f2 f3 f4 f5 f6
  refine wpAnyH_done (by kernel_rfl) ?_ _
  unfold set7 at S1
  obtain ⟨W9, hW9⟩ : ∃ W9, ((((((((((((((w0).setCell ⟨G, 0, none⟩ (.int .i64 b5)).setCell ⟨G, 1, none⟩ (.int .i64 u5)).setCell ⟨G, 2, none⟩ (.int .i64 c5)).setCell ⟨G, 3, none⟩ (.int .i64 x5)).setCell ⟨G, 4, none⟩ (.int .i64 n5)).setCell ⟨G, 5, none⟩ (.string h5)).setCell ⟨G, 6, none⟩ (.string t5)).setCell ⟨K, 0, none⟩ (.int .i64 b6)).setCell ⟨K, 1, none⟩ (.int .i64 u6)).setCell ⟨K, 2, none⟩ (.int .i64 c6)).setCell ⟨K, 3, none⟩ (.int .i64 x6)).setCell ⟨K, 4, none⟩ (.int .i64 n6)).setCell ⟨K, 5, none⟩ (.string h6)).setCell ⟨K, 6, none⟩ (.string t6) = W9 := ⟨_, rfl⟩
  simp only [hW9] at S1
  rw [hW9]
  clear hW9
  refine hKK.out _ _ ?_
  clear hKK KK MU MV
  go_upto_if 37 with fail
  go_cut [12] (fun v W => v = .pointer (some ⟨G, 0, none⟩) ∧ Hid (S5 w X Y Jb G K ⟨b1, u1, c1, x1, n1, h1, t1⟩ ⟨b2, u2, c2, x2, n2, h2, t2⟩ ⟨b4, u4, c4, x4, n4, h4, t4⟩ ⟨b8, u8, c8, x8, n8, h8, t8⟩ ⟨b6, u6, c6, x6, n6, h6, t6⟩ W))
  case first =>
    by_cases h : a.size < 16
    · have h' : (a.size : Int) < 16 := by omega
      obtain ⟨q0, q1, q2, q3, q4, q5, q6⟩ := BxR.cs S1.hz.hx
      obtain ⟨y0, y1, y2, y3, y4, y5, y6⟩ := BxR.cs S1.hg
      have f0 := BxR.fz S1.hg 0
      have f1 := BxR.fz S1.hg 1
      have f2 := BxR.fz S1.hg 2
      have f3 := BxR.fz S1.hg 3
      have f4 := BxR.fz S1.hg 4
      have f5 := BxR.fz S1.hg 5
      have f6 := BxR.fz S1.hg 6
      go_wp2_with fail
      go_meet
      refine ⟨rfl, Lib.hid ?_⟩
      rw [i8a.out h]
      exact S1.setG ⟨b1, u1, c1, x1, n1, h1, t1⟩
    · have h' : ¬ ((a.size : Int) < 16) := by omega
      go_wp2_with fail
      go_meet
      refine ⟨rfl, Lib.hid ?_⟩
      rw [i8b.out h]
      exact S1
  case rest =>
    obtain ⟨rfl, S2⟩ := hcut
    replace S2 := S2.out
    go_upto_if 41 with fail
    go_cut [13] (fun v W => v = .pointer (some ⟨K, 0, none⟩) ∧ Hid (S5 w X Y Jb G K ⟨b1, u1, c1, x1, n1, h1, t1⟩ ⟨b2, u2, c2, x2, n2, h2, t2⟩ ⟨b4, u4, c4, x4, n4, h4, t4⟩ ⟨b8, u8, c8, x8, n8, h8, t8⟩ ⟨b9, u9, c9, x9, n9, h9, t9⟩ W))
    case first =>
      by_cases h : b.size < 16
      · have h' : (b.size : Int) < 16 := by omega
        obtain ⟨q0, q1, q2, q3, q4, q5, q6⟩ := BxR.cs S2.hz.hy
        obtain ⟨y0, y1, y2, y3, y4, y5, y6⟩ := BxR.cs S2.hk
        have f0 := BxR.fz S2.hk 0
        have f1 := BxR.fz S2.hk 1
        have f2 := BxR.fz S2.hk 2
        have f3 := BxR.fz S2.hk 3
        have f4 := BxR.fz S2.hk 4
        have f5 := BxR.fz S2.hk 5
        have f6 := BxR.fz S2.hk 6
        go_wp2_with fail
        go_meet
        refine ⟨rfl, Lib.hid ?_⟩
        rw [i9a.out h]
        exact S2.setK ⟨b2, u2, c2, x2, n2, h2, t2⟩
      · have h' : ¬ ((b.size : Int) < 16) := by omega
        go_wp2_with fail
        go_meet
        refine ⟨rfl, Lib.hid ?_⟩
        rw [i9b.out h]
        exact S2
    case rest =>
      obtain ⟨rfl, S3⟩ := hcut
      replace S3 := S3.out
      clear i8a i8b i9a i9b
      obtain ⟨q0, q1, q2, q3, q4, q5, q6⟩ := BxR.cs S3.hg
      obtain ⟨y0, y1, y2, y3, y4, y5, y6⟩ := BxR.cs S3.hk
      go_upto_region 11 with (first
        | (go_at_call 17; (with_reducible refine (J2.out _ _ _ (rds2 _ _ (heap_alloc_new _ _)) (HT.out.below (S3.al _).hz.bel)).mono ?_); rintro e w7 ⟨rfl, g7⟩; have S4 := (S3.al _).call g7; clear g7))
      have S6 := S4.al (.cells #[.int .i64 b7, .int .i64 u7, .int .i64 c7, .int .i64 x7, .int .i64 n7, .string h7, .string t7] 26)
      have k7 : BxR (w7.alloc (.cells #[.int .i64 b7, .int .i64 u7, .int .i64 c7, .int .i64 x7, .int .i64 n7, .string h7, .string t7] 26)) w7.heap.size b7 u7 c7 x7 n7 h7 t7 := heap_alloc_new w7 _
      clear q0 q1 q2 q3 q4 q5 q6 y0 y1 y2 y3 y4 y5 y6
      obtain ⟨kk0, kk1, kk2, kk3, kk4, kk5, kk6⟩ := BxR.cs k7
      obtain ⟨xx0, xx1, xx2, xx3, xx4, xx5, xx6⟩ := BxR.cs S6.hz.hx
      obtain ⟨y0, y1, y2, y3, y4, y5, y6⟩ := BxR.cs S6.hz.hy
      obtain ⟨z0, z1, z2, z3, z4, z5, z6⟩ := BxR.cs S6.hz.hz
      obtain ⟨gg0, g1, g2, g3, g4, g5, g6⟩ := BxR.cs S6.hg
      obtain ⟨mm0, mm1, mm2, mm3, mm4, mm5, mm6⟩ := BxR.cs S6.hk
      have HB := Lib.hid S6.hz.bel
      clear S6 k7 S4 S3 J2
      go_wp2_with fail
      go_ret
      exact ⟨rfl, HB.out⟩
end Go.Proofs.YtoodidokjchplaaDoor.Un
