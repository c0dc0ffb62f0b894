/- MetricHomes: walked. -/
import Derived.Test.YtoodidokjchplaaDoorRW
namespace Go.Proofs.YtoodidokjchplaaDoor.Un
open Go Go.RowKit Go.Shelf
open Go.Proofs.YtoodidokjchplaaDoor.Wk (bcell bel_drew bel_drewN bel_alloc bel_set bel_call size_len blk_cell blk_below blk_lt mk_data)
set_option linter.unusedVariables false
set_option linter.unusedSimpArgs false
attribute [local go_sem high] eqA26
theorem three_bx (w : World) (p q r : Sr) : ∃ W, W = ((w.alloc (.cells #[.int .i64 p.b, .int .i64 p.u, .int .i64 p.c, .int .i64 p.x, .int .i64 p.n, .string p.h, .string p.t] 26)).alloc (.cells #[.int .i64 q.b, .int .i64 q.u, .int .i64 q.c, .int .i64 q.x, .int .i64 q.n, .string q.h, .string q.t] 26)).alloc (.cells #[.int .i64 r.b, .int .i64 r.u, .int .i64 r.c, .int .i64 r.x, .int .i64 r.n, .string r.h, .string r.t] 26) ∧
    BxR W w.heap.size p.b p.u p.c p.x p.n p.h p.t ∧ BxR W (w.heap.size + 1) q.b q.u q.c q.x q.n q.h q.t ∧ BxR W (w.heap.size + 1 + 1) r.b r.u r.c r.x r.n r.h r.t ∧ Below w.heap.size w W := by
  have h1 := heap_alloc_new w (.cells #[.int .i64 p.b, .int .i64 p.u, .int .i64 p.c, .int .i64 p.x, .int .i64 p.n, .string p.h, .string p.t] 26)
  have h2 := heap_alloc_new (w.alloc (.cells #[.int .i64 p.b, .int .i64 p.u, .int .i64 p.c, .int .i64 p.x, .int .i64 p.n, .string p.h, .string p.t] 26)) (.cells #[.int .i64 q.b, .int .i64 q.u, .int .i64 q.c, .int .i64 q.x, .int .i64 q.n, .string q.h, .string q.t] 26)
  have h3 := heap_alloc_new ((w.alloc (.cells #[.int .i64 p.b, .int .i64 p.u, .int .i64 p.c, .int .i64 p.x, .int .i64 p.n, .string p.h, .string p.t] 26)).alloc (.cells #[.int .i64 q.b, .int .i64 q.u, .int .i64 q.c, .int .i64 q.x, .int .i64 q.n, .string q.h, .string q.t] 26)) (.cells #[.int .i64 r.b, .int .i64 r.u, .int .i64 r.c, .int .i64 r.x, .int .i64 r.n, .string r.h, .string r.t] 26)
  rw [Wk.size_alloc] at h2 h3
  rw [Wk.size_alloc] at h3
  exact ⟨_, rfl, Wk.blk_alloc (Wk.blk_alloc h1 _) _, Wk.blk_alloc h2 _, h3, bel_alloc (bel_alloc (bel_alloc (Below.refl _ _) _) _) _⟩
theorem heap_alloc_new1 (w : World) (o o' : Obj) : ((w.alloc o').alloc o).heap[w.heap.size + 1]? = some o := by
  have h := heap_alloc_new (w.alloc o') o
  rw [Wk.size_alloc] at h
  exact h
theorem blk_belowR {w w1 : World} {g : Nat} {ob : Obj} (hb : Below w.heap.size w w1) (h : w.heap[g]? = some ob) : w1.heap[g]? = some ob := blk_below h hb
structure HZ (w : World) (X Y Z : Nat) (p q r : Sr) (W : World) : Prop where
  hx : BxR W X p.b p.u p.c p.x p.n p.h p.t
  hy : BxR W Y q.b q.u q.c q.x q.n q.h q.t
  hz : BxR W Z r.b r.u r.c r.x r.n r.h r.t
  bel : Below w.heap.size w W
theorem HZ.call {w W W' : World} {X Y Z : Nat} {p q r : Sr} (h : HZ w X Y Z p q r W) (hb : Below W.heap.size W W') : HZ w X Y Z p q r W' := ⟨blk_below h.hx hb, blk_below h.hy hb, blk_below h.hz hb, bel_call h.bel hb⟩
theorem HZ.callK {C : Prop} {w W W' : World} {X Y Z : Nat} {p q r : Sr} (hb : Below W.heap.size W W') (h : HZ w X Y Z p q r W) (k : HZ w X Y Z p q r W' → C) : C := k (h.call hb)
theorem HZ.al {w W : World} {X Y Z : Nat} {p q r : Sr} (h : HZ w X Y Z p q r W) (o : Obj) : HZ w X Y Z p q r (W.alloc o) := ⟨Wk.blk_alloc h.hx _, Wk.blk_alloc h.hy _, Wk.blk_alloc h.hz _, bel_alloc h.bel _⟩
theorem HZ.dr {w W : World} {X Y Z : Nat} {p q r : Sr} (h : HZ w X Y Z p q r W) : HZ w X Y Z p q r W.drew := ⟨h.hx, h.hy, h.hz, bel_drew h.bel⟩
theorem HZ.cs3 {w W : World} {X Y Z : Nat} {p q r : Sr} (h : HZ w X Y Z p q r W) : (W.cell? ⟨X, 0, none⟩ = some (.int .i64 p.b) ∧ W.cell? ⟨X, 1, none⟩ = some (.int .i64 p.u) ∧ W.cell? ⟨X, 2, none⟩ = some (.int .i64 p.c) ∧ W.cell? ⟨X, 3, none⟩ = some (.int .i64 p.x) ∧ W.cell? ⟨X, 4, none⟩ = some (.int .i64 p.n) ∧ W.cell? ⟨X, 5, none⟩ = some (.string p.h) ∧ W.cell? ⟨X, 6, none⟩ = some (.string p.t)) ∧ (W.cell? ⟨Y, 0, none⟩ = some (.int .i64 q.b) ∧ W.cell? ⟨Y, 1, none⟩ = some (.int .i64 q.u) ∧ W.cell? ⟨Y, 2, none⟩ = some (.int .i64 q.c) ∧ W.cell? ⟨Y, 3, none⟩ = some (.int .i64 q.x) ∧ W.cell? ⟨Y, 4, none⟩ = some (.int .i64 q.n) ∧ W.cell? ⟨Y, 5, none⟩ = some (.string q.h) ∧ W.cell? ⟨Y, 6, none⟩ = some (.string q.t)) ∧ (W.cell? ⟨Z, 0, none⟩ = some (.int .i64 r.b) ∧ W.cell? ⟨Z, 1, none⟩ = some (.int .i64 r.u) ∧ W.cell? ⟨Z, 2, none⟩ = some (.int .i64 r.c) ∧ W.cell? ⟨Z, 3, none⟩ = some (.int .i64 r.x) ∧ W.cell? ⟨Z, 4, none⟩ = some (.int .i64 r.n) ∧ W.cell? ⟨Z, 5, none⟩ = some (.string r.h) ∧ W.cell? ⟨Z, 6, none⟩ = some (.string r.t)) := ⟨h.hx.cs, h.hy.cs, h.hz.cs⟩
set_option maxRecDepth 100000 in
set_option maxHeartbeats 4000000 in
theorem homes_calls (a b c : ByteArray) (hs : a.size + b.size + c.size ≤ 1000000000) (w : World) (hT : Tb w) :
    Calls Tryd.prog 4 #[.string a, .string b, .string c] w fun e w' => e = .returned (.bool true) ∧ Below w.heap.size w w' := by
  have HT := Lib.hid hT
  clear hT
  have K := Lib.hid (fun W hW => counts_calls W hW)
  have la := size_len a
  have lb := size_len b
  have lc := size_len c
  obtain ⟨A, hA⟩ : ∃ A, a.data.toList = A := ⟨_, rfl⟩
  obtain ⟨B, hB⟩ : ∃ B, b.data.toList = B := ⟨_, rfl⟩
  obtain ⟨C, hC⟩ : ∃ C, c.data.toList = C := ⟨_, rfl⟩
  rw [hA] at la
  rw [hB] at lb
  rw [hC] at lc
  have hAB : (a ++ b).data.toList = A ++ B := by simp [hA, hB]
  have hABC : (a ++ b ++ c).data.toList = A ++ B ++ C := by simp [hA, hB, hC]
  obtain ⟨r1, e1⟩ : ∃ r, mR (A) = r := ⟨_, rfl⟩
  obtain ⟨b1, u1, c1, x1, n1, h1, t1⟩ := r1
  obtain ⟨r2, e2⟩ : ∃ r, mR (B) = r := ⟨_, rfl⟩
  obtain ⟨b2, u2, c2, x2, n2, h2, t2⟩ := r2
  obtain ⟨r3, e3⟩ : ∃ r, mR (C) = r := ⟨_, rfl⟩
  obtain ⟨b3, u3, c3, x3, n3, h3, t3⟩ := r3
  obtain ⟨r4, e4⟩ : ∃ r, mR (A ++ B) = r := ⟨_, rfl⟩
  obtain ⟨b4, u4, c4, x4, n4, h4, t4⟩ := r4
  obtain ⟨r5, e5⟩ : ∃ r, mR (A ++ B ++ C) = r := ⟨_, rfl⟩
  obtain ⟨b5, u5, c5, x5, n5, h5, t5⟩ := r5
  obtain ⟨r6, e6⟩ : ∃ r, mR (B ++ C) = r := ⟨_, rfl⟩
  obtain ⟨b6, u6, c6, x6, n6, h6, t6⟩ := r6
  have e7 : mR [] = ⟨0, 0, 0, 0, 0, ⟨#[]⟩, ⟨#[]⟩⟩ := mR_z
  have MA := Lib.hid (fun W hW => measR a (by first | omega | (rw [ByteArray.size_append]; omega) | (rw [ByteArray.size_append, ByteArray.size_append]; omega)) ((congrArg mR hA).trans e1) W hW)
  have MB := Lib.hid (fun W hW => measR b (by first | omega | (rw [ByteArray.size_append]; omega) | (rw [ByteArray.size_append, ByteArray.size_append]; omega)) ((congrArg mR hB).trans e2) W hW)
  have MC := Lib.hid (fun W hW => measR c (by first | omega | (rw [ByteArray.size_append]; omega) | (rw [ByteArray.size_append, ByteArray.size_append]; omega)) ((congrArg mR hC).trans e3) W hW)
  have MAB := Lib.hid (fun W hW => measR (a ++ b) (by first | omega | (rw [ByteArray.size_append]; omega) | (rw [ByteArray.size_append, ByteArray.size_append]; omega)) ((congrArg mR hAB).trans e4) W hW)
  have MABC := Lib.hid (fun W hW => measR (a ++ b ++ c) (by first | omega | (rw [ByteArray.size_append]; omega) | (rw [ByteArray.size_append, ByteArray.size_append]; omega)) ((congrArg mR hABC).trans e5) W hW)
  have MN := Lib.hid (fun W hW => measR ⟨#[]⟩ (by decide) e7 W hW)
  have J1 := Lib.hid (fun W Ad cp hR hT => joinLE (A := Ad) (n := 2) (c := cp) (W := W) [A, B] (l := A ++ B) (by simp) (by first | omega | (rw [List.length_append]; omega) | (rw [List.length_append, List.length_append]; omega)) rfl [⟨b1, u1, c1, x1, n1, h1, t1⟩, ⟨b2, u2, c2, x2, n2, h2, t2⟩] (by simp only [List.map_cons, List.map_nil, e1, e2]) hT e4 (by simp) hR)
  have J2 := Lib.hid (fun W Ad cp hR hT => joinLE (A := Ad) (n := 3) (c := cp) (W := W) [A, B, C] (l := A ++ B ++ C) (by simp) (by first | omega | (rw [List.length_append]; omega) | (rw [List.length_append, List.length_append]; omega)) rfl [⟨b1, u1, c1, x1, n1, h1, t1⟩, ⟨b2, u2, c2, x2, n2, h2, t2⟩, ⟨b3, u3, c3, x3, n3, h3, t3⟩] (by simp only [List.map_cons, List.map_nil, e1, e2, e3]) hT e5 (by simp) hR)
  have J3 := Lib.hid (fun W Ad cp hR hT => joinLE (A := Ad) (n := 2) (c := cp) (W := W) [A ++ B, C] (l := A ++ B ++ C) (by simp) (by first | omega | (rw [List.length_append]; omega) | (rw [List.length_append, List.length_append]; omega)) rfl [⟨b4, u4, c4, x4, n4, h4, t4⟩, ⟨b3, u3, c3, x3, n3, h3, t3⟩] (by simp only [List.map_cons, List.map_nil, e3, e4]) hT e5 (by simp) hR)
  have J4 := Lib.hid (fun W Ad cp hR hT => joinLE (A := Ad) (n := 2) (c := cp) (W := W) [B, C] (l := B ++ C) (by simp) (by first | omega | (rw [List.length_append]; omega) | (rw [List.length_append, List.length_append]; omega)) rfl [⟨b2, u2, c2, x2, n2, h2, t2⟩, ⟨b3, u3, c3, x3, n3, h3, t3⟩] (by simp only [List.map_cons, List.map_nil, e2, e3]) hT e6 (by simp) hR)
  have J5 := Lib.hid (fun W Ad cp hR hT => joinLE (A := Ad) (n := 2) (c := cp) (W := W) [A, B ++ C] (l := A ++ B ++ C) (by simp) (by first | omega | (rw [List.length_append]; omega) | (rw [List.length_append, List.length_append]; omega)) rfl [⟨b1, u1, c1, x1, n1, h1, t1⟩, ⟨b6, u6, c6, x6, n6, h6, t6⟩] (by simp only [List.map_cons, List.map_nil, e1, e6]) hT e5 (by simp) hR)
  have J6 := Lib.hid (fun W Ad cp hR hT => joinLE (A := Ad) (n := 1) (c := cp) (W := W) [A] (l := A) (by simp) (by first | omega | (rw [List.length_append]; omega) | (rw [List.length_append, List.length_append]; omega)) rfl [⟨b1, u1, c1, x1, n1, h1, t1⟩] (by simp only [List.map_cons, List.map_nil, e1]) hT e1 (by simp) hR)
  have J7 := Lib.hid (fun W Ad cp hR hT => joinLE (A := Ad) (n := 2) (c := cp) (W := W) [[], A] (l := A) (by simp) (by first | omega | (rw [List.length_append]; omega) | (rw [List.length_append, List.length_append]; omega)) rfl [⟨0, 0, 0, 0, 0, ⟨#[]⟩, ⟨#[]⟩⟩, ⟨b1, u1, c1, x1, n1, h1, t1⟩] (by simp only [List.map_cons, List.map_nil, e1, e7]) hT e1 (by simp) hR)
  have J8 := Lib.hid (fun W Ad cp hR hT => joinLE (A := Ad) (n := 2) (c := cp) (W := W) [A, []] (l := A) (by simp) (by first | omega | (rw [List.length_append]; omega) | (rw [List.length_append, List.length_append]; omega)) rfl [⟨b1, u1, c1, x1, n1, h1, t1⟩, ⟨0, 0, 0, 0, 0, ⟨#[]⟩, ⟨#[]⟩⟩] (by simp only [List.map_cons, List.map_nil, e1, e7]) hT e1 (by simp) hR)
  have q4 : eqB b4 b4 u4 u4 c4 c4 x4 x4 n4 n4 h4 h4 t4 t4 = true := eqS_self ⟨b4, u4, c4, x4, n4, h4, t4⟩
  have q5 : eqB b5 b5 u5 u5 c5 c5 x5 x5 n5 n5 h5 h5 t5 t5 = true := eqS_self ⟨b5, u5, c5, x5, n5, h5, t5⟩
  have q1 : eqB b1 b1 u1 u1 c1 c1 x1 x1 n1 n1 h1 h1 t1 t1 = true := eqS_self ⟨b1, u1, c1, x1, n1, h1, t1⟩
  have q7 : eqB 0 0 0 0 0 0 0 0 0 0 ⟨#[]⟩ ⟨#[]⟩ ⟨#[]⟩ ⟨#[]⟩ = true := eqS_self Sr.z
  have s1 : ¬ (9223372036854775807 < a.size + b.size) := by omega
  have s2 : ¬ (9223372036854775807 < (a ++ b).size + c.size) := by rw [ByteArray.size_append]; omega
  clear la lb lc hA hB hC hAB hABC e1 e2 e3 e4 e5 e6 e7 hs
  go_enter Tryd.func4, Tryd.ntmps4
  go_upto_region 4 with (first
    | (go_at_call 15; (with_reducible refine (K.out _ HT.out).mono ?_); rintro e w1 ⟨rfl, k1⟩)
    | (go_at_call 19; (with_reducible refine (MA.out _ (HT.out.below k1)).mono ?_); rintro e w2 ⟨rfl, g2⟩; have k2 := bel_call k1 g2; clear g2)
    | (go_at_call 19; (with_reducible refine (MB.out _ (HT.out.below k2)).mono ?_); rintro e w3 ⟨rfl, g3⟩; have k3 := bel_call k2 g3; clear g3)
    | (go_at_call 19; (with_reducible refine (MC.out _ (HT.out.below k3)).mono ?_); rintro e w4 ⟨rfl, g4⟩; have k4 := bel_call k3 g4; clear g4))
  obtain ⟨W, hW, d1, d2, d3, d4⟩ := three_bx w4 ⟨b1, u1, c1, x1, n1, h1, t1⟩ ⟨b2, u2, c2, x2, n2, h2, t2⟩ ⟨b3, u3, c3, x3, n3, h3, t3⟩
  simp only at hW
  rw [← hW]
  clear hW
  obtain ⟨X, hX⟩ : ∃ X, w4.heap.size = X := ⟨_, rfl⟩
  have Z0 : HZ w X (X + 1) (X + 1 + 1) ⟨b1, u1, c1, x1, n1, h1, t1⟩ ⟨b2, u2, c2, x2, n2, h2, t2⟩ ⟨b3, u3, c3, x3, n3, h3, t3⟩ W := by rw [hX] at d1 d2 d3; exact ⟨d1, d2, d3, bel_call k4 d4⟩
  rw [hX]
  clear hX d1 d2 d3 d4 k1 k2 k3 k4 MA MB MC
  obtain ⟨Y, hY⟩ : ∃ Y, X + 1 = Y := ⟨_, rfl⟩
  rw [hY] at Z0 ⊢
  obtain ⟨Z, hZ⟩ : ∃ Z, Y + 1 = Z := ⟨_, rfl⟩
  rw [hZ] at Z0 ⊢
  clear hY hZ
  obtain ⟨i0, i1, i2, i3, i4, i5, i6⟩ := Z0.hx.cs; obtain ⟨j0, j1, j2, j3, j4, j5, j6⟩ := Z0.hy.cs; obtain ⟨k0', k1', k2', k3', k4', k5', k6'⟩ := Z0.hz.cs
  go_upto_region 6 with (first
    | (go_at_call 17; (with_reducible refine (J1.out _ _ _ (rds2 _ _ (heap_alloc_new _ _)) (HT.out.below (Z0.al _).bel)).mono ?_); rintro e w5 ⟨rfl, g5⟩; have Z1 := (Z0.al _).call g5; clear g5)
    | (go_at_call 19; (with_reducible refine (MAB.out _ (HT.out.below Z1.bel)).mono ?_); rintro e w6 ⟨rfl, g6⟩; have Z2 := Z1.call g6; clear g6; obtain ⟨i0, i1, i2, i3, i4, i5, i6⟩ := Z2.hx.cs; obtain ⟨j0, j1, j2, j3, j4, j5, j6⟩ := Z2.hy.cs; obtain ⟨k0', k1', k2', k3', k4', k5', k6'⟩ := Z2.hz.cs)
    | (go_at_call 17; (with_reducible refine (J2.out _ _ _ (rds3 _ _ _ (heap_alloc_new _ _)) (HT.out.below (Z2.al _).bel)).mono ?_); rintro e w7 ⟨rfl, g7⟩; have Z3 := (Z2.al _).call g7; clear g7)
    | (go_at_call 19; (with_reducible refine (MABC.out _ (HT.out.below Z3.bel)).mono ?_); rintro e w8 ⟨rfl, g8⟩; have Z4 := Z3.call g8; clear g8))
  clear MAB MABC J2 K q4 Z3 Z2 Z1 Z0
  go_cut [63] (fun v63 W => v63 = .bool false ∧ Hid (HZ w X Y Z ⟨b1, u1, c1, x1, n1, h1, t1⟩ ⟨b2, u2, c2, x2, n2, h2, t2⟩ ⟨b3, u3, c3, x3, n3, h3, t3⟩ W))
  case first =>
    go_region_held3 (fun w' => (w'.cell? ⟨X, 0, none⟩ = some (.int .i64 b1) ∧ w'.cell? ⟨X, 1, none⟩ = some (.int .i64 u1) ∧ w'.cell? ⟨X, 2, none⟩ = some (.int .i64 c1) ∧ w'.cell? ⟨X, 3, none⟩ = some (.int .i64 x1) ∧ w'.cell? ⟨X, 4, none⟩ = some (.int .i64 n1) ∧ w'.cell? ⟨X, 5, none⟩ = some (.string h1) ∧ w'.cell? ⟨X, 6, none⟩ = some (.string t1)) ∧ (w'.cell? ⟨Y, 0, none⟩ = some (.int .i64 b2) ∧ w'.cell? ⟨Y, 1, none⟩ = some (.int .i64 u2) ∧ w'.cell? ⟨Y, 2, none⟩ = some (.int .i64 c2) ∧ w'.cell? ⟨Y, 3, none⟩ = some (.int .i64 x2) ∧ w'.cell? ⟨Y, 4, none⟩ = some (.int .i64 n2) ∧ w'.cell? ⟨Y, 5, none⟩ = some (.string h2) ∧ w'.cell? ⟨Y, 6, none⟩ = some (.string t2)) ∧ (w'.cell? ⟨Z, 0, none⟩ = some (.int .i64 b3) ∧ w'.cell? ⟨Z, 1, none⟩ = some (.int .i64 u3) ∧ w'.cell? ⟨Z, 2, none⟩ = some (.int .i64 c3) ∧ w'.cell? ⟨Z, 3, none⟩ = some (.int .i64 x3) ∧ w'.cell? ⟨Z, 4, none⟩ = some (.int .i64 n3) ∧ w'.cell? ⟨Z, 5, none⟩ = some (.string h3) ∧ w'.cell? ⟨Z, 6, none⟩ = some (.string t3)))
      ((refine HZ.cs3 (w := w) (X := X) (Y := Y) (Z := Z) (p := ⟨b1, u1, c1, x1, n1, h1, t1⟩) (q := ⟨b2, u2, c2, x2, n2, h2, t2⟩) (r := ⟨b3, u3, c3, x3, n3, h3, t3⟩) ?_; repeat (first | (with_reducible assumption) | (with_reducible refine HZ.al ?_ _) | (with_reducible refine HZ.dr ?_))))
      (first
      | (go_at_call 17; (with_reducible refine (J1.out _ _ _ (rds2 (t := 26) _ _ ?_) (HT.out.below (HZ.bel (X := X) (Y := Y) (Z := Z) (p := ⟨b1, u1, c1, x1, n1, h1, t1⟩) (q := ⟨b2, u2, c2, x2, n2, h2, t2⟩) (r := ⟨b3, u3, c3, x3, n3, h3, t3⟩) ?_))).mono ?_); (focus ((repeat (first | (with_reducible exact heap_alloc_new _ _) | (with_reducible exact heap_alloc_new1 _ _ _) | (with_reducible refine Wk.blk_alloc ?_ _) | (with_reducible refine Wk.blk_drew ?_) | ((with_reducible apply blk_belowR); (focus assumption)))); done)); (focus ((repeat (first | (with_reducible assumption) | (with_reducible refine HZ.al ?_ _) | (with_reducible refine HZ.dr ?_))); done)); rintro e wn ⟨rfl, gn⟩; refine HZ.callK (w := w) (X := X) (Y := Y) (Z := Z) (p := ⟨b1, u1, c1, x1, n1, h1, t1⟩) (q := ⟨b2, u2, c2, x2, n2, h2, t2⟩) (r := ⟨b3, u3, c3, x3, n3, h3, t3⟩) gn ?_ (fun Zn => ?_); (focus ((repeat (first | (with_reducible assumption) | (with_reducible refine HZ.al ?_ _) | (with_reducible refine HZ.dr ?_))); done)))
      | (go_at_call 17; (with_reducible refine (J3.out _ _ _ (rds2 (t := 26) _ _ ?_) (HT.out.below (HZ.bel (X := X) (Y := Y) (Z := Z) (p := ⟨b1, u1, c1, x1, n1, h1, t1⟩) (q := ⟨b2, u2, c2, x2, n2, h2, t2⟩) (r := ⟨b3, u3, c3, x3, n3, h3, t3⟩) ?_))).mono ?_); (focus ((repeat (first | (with_reducible exact heap_alloc_new _ _) | (with_reducible exact heap_alloc_new1 _ _ _) | (with_reducible refine Wk.blk_alloc ?_ _) | (with_reducible refine Wk.blk_drew ?_) | ((with_reducible apply blk_belowR); (focus assumption)))); done)); (focus ((repeat (first | (with_reducible assumption) | (with_reducible refine HZ.al ?_ _) | (with_reducible refine HZ.dr ?_))); done)); rintro e wn ⟨rfl, gn⟩; refine HZ.callK (w := w) (X := X) (Y := Y) (Z := Z) (p := ⟨b1, u1, c1, x1, n1, h1, t1⟩) (q := ⟨b2, u2, c2, x2, n2, h2, t2⟩) (r := ⟨b3, u3, c3, x3, n3, h3, t3⟩) gn ?_ (fun Zn => ?_); (focus ((repeat (first | (with_reducible assumption) | (with_reducible refine HZ.al ?_ _) | (with_reducible refine HZ.dr ?_))); done)))
      | (go_at_call 17; (with_reducible refine (J4.out _ _ _ (rds2 (t := 26) _ _ ?_) (HT.out.below (HZ.bel (X := X) (Y := Y) (Z := Z) (p := ⟨b1, u1, c1, x1, n1, h1, t1⟩) (q := ⟨b2, u2, c2, x2, n2, h2, t2⟩) (r := ⟨b3, u3, c3, x3, n3, h3, t3⟩) ?_))).mono ?_); (focus ((repeat (first | (with_reducible exact heap_alloc_new _ _) | (with_reducible exact heap_alloc_new1 _ _ _) | (with_reducible refine Wk.blk_alloc ?_ _) | (with_reducible refine Wk.blk_drew ?_) | ((with_reducible apply blk_belowR); (focus assumption)))); done)); (focus ((repeat (first | (with_reducible assumption) | (with_reducible refine HZ.al ?_ _) | (with_reducible refine HZ.dr ?_))); done)); rintro e wn ⟨rfl, gn⟩; refine HZ.callK (w := w) (X := X) (Y := Y) (Z := Z) (p := ⟨b1, u1, c1, x1, n1, h1, t1⟩) (q := ⟨b2, u2, c2, x2, n2, h2, t2⟩) (r := ⟨b3, u3, c3, x3, n3, h3, t3⟩) gn ?_ (fun Zn => ?_); (focus ((repeat (first | (with_reducible assumption) | (with_reducible refine HZ.al ?_ _) | (with_reducible refine HZ.dr ?_))); done)))
      | (go_at_call 17; (with_reducible refine (J5.out _ _ _ (rds2 (t := 26) _ _ ?_) (HT.out.below (HZ.bel (X := X) (Y := Y) (Z := Z) (p := ⟨b1, u1, c1, x1, n1, h1, t1⟩) (q := ⟨b2, u2, c2, x2, n2, h2, t2⟩) (r := ⟨b3, u3, c3, x3, n3, h3, t3⟩) ?_))).mono ?_); (focus ((repeat (first | (with_reducible exact heap_alloc_new _ _) | (with_reducible exact heap_alloc_new1 _ _ _) | (with_reducible refine Wk.blk_alloc ?_ _) | (with_reducible refine Wk.blk_drew ?_) | ((with_reducible apply blk_belowR); (focus assumption)))); done)); (focus ((repeat (first | (with_reducible assumption) | (with_reducible refine HZ.al ?_ _) | (with_reducible refine HZ.dr ?_))); done)); rintro e wn ⟨rfl, gn⟩; refine HZ.callK (w := w) (X := X) (Y := Y) (Z := Z) (p := ⟨b1, u1, c1, x1, n1, h1, t1⟩) (q := ⟨b2, u2, c2, x2, n2, h2, t2⟩) (r := ⟨b3, u3, c3, x3, n3, h3, t3⟩) gn ?_ (fun Zn => ?_); (focus ((repeat (first | (with_reducible assumption) | (with_reducible refine HZ.al ?_ _) | (with_reducible refine HZ.dr ?_))); done)))
      | (go_at_call 17; (with_reducible refine (J6.out _ _ _ (rds1 (t := 26) _ ?_) (HT.out.below (HZ.bel (X := X) (Y := Y) (Z := Z) (p := ⟨b1, u1, c1, x1, n1, h1, t1⟩) (q := ⟨b2, u2, c2, x2, n2, h2, t2⟩) (r := ⟨b3, u3, c3, x3, n3, h3, t3⟩) ?_))).mono ?_); (focus ((repeat (first | (with_reducible exact heap_alloc_new _ _) | (with_reducible exact heap_alloc_new1 _ _ _) | (with_reducible refine Wk.blk_alloc ?_ _) | (with_reducible refine Wk.blk_drew ?_) | ((with_reducible apply blk_belowR); (focus assumption)))); done)); (focus ((repeat (first | (with_reducible assumption) | (with_reducible refine HZ.al ?_ _) | (with_reducible refine HZ.dr ?_))); done)); rintro e wn ⟨rfl, gn⟩; refine HZ.callK (w := w) (X := X) (Y := Y) (Z := Z) (p := ⟨b1, u1, c1, x1, n1, h1, t1⟩) (q := ⟨b2, u2, c2, x2, n2, h2, t2⟩) (r := ⟨b3, u3, c3, x3, n3, h3, t3⟩) gn ?_ (fun Zn => ?_); (focus ((repeat (first | (with_reducible assumption) | (with_reducible refine HZ.al ?_ _) | (with_reducible refine HZ.dr ?_))); done))))
    all_goals (go_wp2_with fail; go_meet)
    all_goals refine ⟨rfl, Lib.hid ?_⟩
    all_goals (repeat (first | (with_reducible assumption) | (with_reducible refine HZ.al ?_ _) | (with_reducible refine HZ.dr ?_)); done)
  case rest =>
    obtain ⟨rfl, Zc⟩ := hcut
    replace Zc := Zc.out
    clear J1 J3 J4 J5 J6 q5
    go_upto_region 9 with (first
      | (go_at_call 19; (with_reducible refine (MN.out _ (HT.out.below Zc.bel)).mono ?_); rintro e w9 ⟨rfl, g9⟩))
    have Zd : HZ w X w9.heap.size w9.heap.size ⟨b1, u1, c1, x1, n1, h1, t1⟩ ⟨0, 0, 0, 0, 0, ⟨#[]⟩, ⟨#[]⟩⟩ ⟨0, 0, 0, 0, 0, ⟨#[]⟩, ⟨#[]⟩⟩ (w9.alloc (.cells #[.int .i64 0, .int .i64 0, .int .i64 0, .int .i64 0, .int .i64 0, .string ⟨#[]⟩, .string ⟨#[]⟩] 26)) := ⟨Wk.blk_alloc (blk_below Zc.hx g9) _, heap_alloc_new _ _, heap_alloc_new _ _, bel_alloc (bel_call Zc.bel g9) _⟩
    obtain ⟨W, hW⟩ : ∃ W, w9.alloc (.cells #[.int .i64 0, .int .i64 0, .int .i64 0, .int .i64 0, .int .i64 0, .string ⟨#[]⟩, .string ⟨#[]⟩] 26) = W := ⟨_, rfl⟩
    obtain ⟨N, hN⟩ : ∃ N, w9.heap.size = N := ⟨_, rfl⟩
    rw [hW, hN] at Zd
    rw [hW, hN]
    clear hW hN Zc g9 MN
    go_region_held3 (fun w' => (w'.cell? ⟨X, 0, none⟩ = some (.int .i64 b1) ∧ w'.cell? ⟨X, 1, none⟩ = some (.int .i64 u1) ∧ w'.cell? ⟨X, 2, none⟩ = some (.int .i64 c1) ∧ w'.cell? ⟨X, 3, none⟩ = some (.int .i64 x1) ∧ w'.cell? ⟨X, 4, none⟩ = some (.int .i64 n1) ∧ w'.cell? ⟨X, 5, none⟩ = some (.string h1) ∧ w'.cell? ⟨X, 6, none⟩ = some (.string t1)) ∧ (w'.cell? ⟨N, 0, none⟩ = some (.int .i64 0) ∧ w'.cell? ⟨N, 1, none⟩ = some (.int .i64 0) ∧ w'.cell? ⟨N, 2, none⟩ = some (.int .i64 0) ∧ w'.cell? ⟨N, 3, none⟩ = some (.int .i64 0) ∧ w'.cell? ⟨N, 4, none⟩ = some (.int .i64 0) ∧ w'.cell? ⟨N, 5, none⟩ = some (.string ⟨#[]⟩) ∧ w'.cell? ⟨N, 6, none⟩ = some (.string ⟨#[]⟩)) ∧ (w'.cell? ⟨N, 0, none⟩ = some (.int .i64 0) ∧ w'.cell? ⟨N, 1, none⟩ = some (.int .i64 0) ∧ w'.cell? ⟨N, 2, none⟩ = some (.int .i64 0) ∧ w'.cell? ⟨N, 3, none⟩ = some (.int .i64 0) ∧ w'.cell? ⟨N, 4, none⟩ = some (.int .i64 0) ∧ w'.cell? ⟨N, 5, none⟩ = some (.string ⟨#[]⟩) ∧ w'.cell? ⟨N, 6, none⟩ = some (.string ⟨#[]⟩)))
      ((refine HZ.cs3 (w := w) (X := X) (Y := N) (Z := N) (p := ⟨b1, u1, c1, x1, n1, h1, t1⟩) (q := ⟨0, 0, 0, 0, 0, ⟨#[]⟩, ⟨#[]⟩⟩) (r := ⟨0, 0, 0, 0, 0, ⟨#[]⟩, ⟨#[]⟩⟩) ?_; repeat (first | (with_reducible assumption) | (with_reducible refine HZ.al ?_ _) | (with_reducible refine HZ.dr ?_))))
      (first
      | (go_at_call 17; (with_reducible refine (J7.out _ _ _ (rds2 (t := 26) _ _ ?_) (HT.out.below (HZ.bel (X := X) (Y := N) (Z := N) (p := ⟨b1, u1, c1, x1, n1, h1, t1⟩) (q := ⟨0, 0, 0, 0, 0, ⟨#[]⟩, ⟨#[]⟩⟩) (r := ⟨0, 0, 0, 0, 0, ⟨#[]⟩, ⟨#[]⟩⟩) ?_))).mono ?_); (focus ((repeat (first | (with_reducible exact heap_alloc_new _ _) | (with_reducible exact heap_alloc_new1 _ _ _) | (with_reducible refine Wk.blk_alloc ?_ _) | (with_reducible refine Wk.blk_drew ?_) | ((with_reducible apply blk_belowR); (focus assumption)))); done)); (focus ((repeat (first | (with_reducible assumption) | (with_reducible refine HZ.al ?_ _) | (with_reducible refine HZ.dr ?_))); done)); rintro e wn ⟨rfl, gn⟩; refine HZ.callK (w := w) (X := X) (Y := N) (Z := N) (p := ⟨b1, u1, c1, x1, n1, h1, t1⟩) (q := ⟨0, 0, 0, 0, 0, ⟨#[]⟩, ⟨#[]⟩⟩) (r := ⟨0, 0, 0, 0, 0, ⟨#[]⟩, ⟨#[]⟩⟩) gn ?_ (fun Zn => ?_); (focus ((repeat (first | (with_reducible assumption) | (with_reducible refine HZ.al ?_ _) | (with_reducible refine HZ.dr ?_))); done)))
      | (go_at_call 17; (with_reducible refine (J8.out _ _ _ (rds2 (t := 26) _ _ ?_) (HT.out.below (HZ.bel (X := X) (Y := N) (Z := N) (p := ⟨b1, u1, c1, x1, n1, h1, t1⟩) (q := ⟨0, 0, 0, 0, 0, ⟨#[]⟩, ⟨#[]⟩⟩) (r := ⟨0, 0, 0, 0, 0, ⟨#[]⟩, ⟨#[]⟩⟩) ?_))).mono ?_); (focus ((repeat (first | (with_reducible exact heap_alloc_new _ _) | (with_reducible exact heap_alloc_new1 _ _ _) | (with_reducible refine Wk.blk_alloc ?_ _) | (with_reducible refine Wk.blk_drew ?_) | ((with_reducible apply blk_belowR); (focus assumption)))); done)); (focus ((repeat (first | (with_reducible assumption) | (with_reducible refine HZ.al ?_ _) | (with_reducible refine HZ.dr ?_))); done)); rintro e wn ⟨rfl, gn⟩; refine HZ.callK (w := w) (X := X) (Y := N) (Z := N) (p := ⟨b1, u1, c1, x1, n1, h1, t1⟩) (q := ⟨0, 0, 0, 0, 0, ⟨#[]⟩, ⟨#[]⟩⟩) (r := ⟨0, 0, 0, 0, 0, ⟨#[]⟩, ⟨#[]⟩⟩) gn ?_ (fun Zn => ?_); (focus ((repeat (first | (with_reducible assumption) | (with_reducible refine HZ.al ?_ _) | (with_reducible refine HZ.dr ?_))); done))))
    all_goals go_wp2_with fail
    all_goals go_ret
    all_goals exact ⟨rfl, Zn.bel⟩
end Go.Proofs.YtoodidokjchplaaDoor.Un
