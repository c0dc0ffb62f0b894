/- Every Print, Line and Piece: the law's walk. -/
import Derived.Test.YtibgefampokfkaaDoorScL
namespace Go.Proofs.YtibgefampokfkaaDoor.Sc
open Go Go.RowKit Go.Proofs.YtibgefampokfkaaDoor.Cut Go.Proofs.YtibgefampokfkaaDoor.PSc
open Go.Proofs.YtibgefampokfkaaDoorW.PrintWords (bt rdOf Kd Drawn0 Reps Aside0)
open Go.Proofs.YtibgefampokfkaaDoor.Wk (bcell bel_drew bel_drewN bel_alloc bel_set bel_call size_len mk_data blk_alloc blk_below blk_drewN blk_cell string_of_own own_slice own_below beq_true_i bne_true_i bne_false_i cells_new var_below)
set_option linter.unusedVariables false
set_option linter.unusedSimpArgs false
theorem prA_len {C : Nat} (l : List S37) (hall : ∀ y ∈ l, y.f1.size ≤ 1048576) : ∀ acc s e, prA acc l = (s, e) → s.length ≤ acc.length + l.length * 5000000 := by
  induction l with
  | nil => intro acc s e h; simp only [prA, Prod.mk.injEq] at h; rw [← h.1]; simp
  | cons x r ih =>
    intro acc s e h
    rw [prA] at h
    have hx := ln_len x (hall x (by simp))
    split at h
    · have := ih (fun y hy => hall y (by simp [hy])) _ _ _ h
      simp only [List.length_append, List.length_cons, List.length_nil] at *
      omega
    · simp only [Prod.mk.injEq] at h; rw [← h.1]; simp
set_option maxHeartbeats 4000000 in
set_option maxRecDepth 100000 in
theorem prints_calls (A0 : Option Addr) (c0 : Nat) (l0 : List S37) (b : ByteArray) (w : World) (hT : Tb w) (hr0 : Kd.C k37 w A0 l0.length l0) (hc0 : l0.length ≤ c0) (hl : l0.length ≤ 1048576) (hall : ∀ y ∈ l0, y.f1.size ≤ 1048576) (hb : b.size ≤ 1048576) :
    Calls Tryd.prog 4 #[.slice A0 l0.length c0, .string b] w fun e w' => e = .returned (.bool true) ∧ Below w.heap.size w w' := by
  have HTb := Lib.hid hT
  have hu := Tryd.underlying37
  have HR0 := Aside0.mk hr0
  have HA := Lib.hid hall
  obtain ⟨P, hP⟩ : ∃ P : ByteArray, piece b.data.toList = P.data.toList := ⟨toB (piece b.data.toList), by simp⟩
  have HP := Lib.hid hP
  obtain ⟨s, e0, hse⟩ : ∃ s e, prA [] l0 = (s, e) := ⟨_, _, rfl⟩
  have HS := Lib.hid hse
  clear hT hr0 hall hP hse
  go_enter Tryd.func4, Tryd.ntmps4
  go_wp2_with (first
    | (go_at_call 9; refine (fixed_calls _).mono ?_; rintro e w1 ⟨rfl, hB⟩)
    | ((with_reducible refine Go.Proofs.YtibgefampokfkaaDoorW.PrintWords.gate_dst (N := 17) rfl ?_); refine Kd.R_lit k37 _ 37 ?hg (N := 17) ?hd (xs := ([] : List S37)) (inner := []) (ok := fun _ => True) (okp := fun _ => True) ?hr ?hp (fun _ hk => hk) trivial (Below.refl _ _) (Nat.le_refl _) (by simp) ?_; (case hd => rfl); (case hg => rfl); (case hr => first | (go_simp; done) | (go_simp; rfl)); (case hp => exact (Reps.none _ _)); intro v2 w2 ho2 hb2 hg_ hnew_; clear hg_ hnew_; replace ho2 := Lib.hid (Kd.R_lower ho2 hB.size); replace hB := Lib.hid (bel_call hB hb2); clear hb2)
    | (at_builtin; go_loud (refine Kd.R_append_rows k37 (w0 := w) w.heap.size rfl (.tmp 17) (.tmp 18) 24 37 (.agg #[(.int .i64 0), (.string ⟨#[]⟩), (.int .i64 0), (.int .i64 0)]) 40 rfl Tryd.underlying24 info37 rfl (by decide) (by omega) _ [] l0 _ _ _ (fun _ => True) (fun _ => False) rfl rfl ho2.out (Kd.C_below HR0.out hB.out) (fun _ _ h => h) (fun _ h => h.elim) (fun _ _ => trivial) hB.out hB.out.size ?aL ?_); (case aL => simp; omega); intro v3 w3 ho3 hb3 hg3 hat; clear hg3 hat; replace hB := Lib.hid hb3; clear hb3; replace ho3 := Lib.hid ho3; obtain ⟨Ao, co, eo⟩ := Kd.R_slice ho3.out; subst eo; have hrd := Lib.hid (Kd.R_reads' ho3.out))
    | (go_at_call 13; (with_reducible refine (print_calls _ _ l0 s e0 _ (Tb.below HTb.out hB.out) hrd.out.2.2 hrd.out.2.1 hl HA.out HS.out).mono ?_); rintro e w4 ⟨rfl, hb4⟩; have hC0 := Lib.hid (Kd.C_below hrd.out.2.2 hb4); replace hB := Lib.hid (bel_call hB.out hb4); clear hb4)
    | (go_at_call 14; (with_reducible refine (rprint_calls _ _ l0 s e0 _ (Kd.C_below HR0.out hB.out) hc0 hl HA.out HS.out).mono ?_); rintro e w5 ⟨rfl, hb5⟩; replace hC0 := Lib.hid (Kd.C_below hC0.out hb5); replace hB := Lib.hid (bel_call hB.out hb5); clear hb5)
    | (go_at_call 12; (with_reducible refine (same_as l0 (by omega) _ _ _ _ _ hC0.out hrd.out.2.1 (Kd.C_below HR0.out hB.out) hc0).mono ?_); rintro e w6 ⟨rfl, nd, rfl⟩; replace hB := Lib.hid (bel_drewN hB.out nd))
    | (go_at_call 15; (with_reducible refine (piece_as HP.out _ (by omega)).mono ?_); rintro e w7 ⟨rfl, hb7⟩; replace hB := Lib.hid (bel_call hB.out hb7); clear hb7)
    | (go_at_call 16; (with_reducible refine (rpiece_as HP.out _ (by omega)).mono ?_); rintro e w8 ⟨rfl, hb8⟩; replace hB := Lib.hid (bel_call hB.out hb8); clear hb8))
  go_loopw [10] (fun v wr => ∃ x : Int, v = .int .i64 x ∧ Hid (0 ≤ x ∧ x ≤ (l0.length : Int)) ∧ Below w.heap.size w wr) (fun v _ => ((l0.length : Int) - intOf v).toNat)
  case atStart => exact ⟨0, rfl, ⟨by omega, by omega⟩, hB.out⟩
  case round =>
    clear hB hC0 hrd ho3
    obtain ⟨x, rfl, hx, hB⟩ := hrel
    obtain ⟨hx0, hx1⟩ := hx.out
    by_cases hlt : x < (l0.length : Int)
    · obtain ⟨ad, ea, x0, x1, x2, x3⟩ := at_T37 HR0.1 x hx0 hlt
      cases ea
      obtain ⟨K, hK⟩ : ∃ K_ : S37, K_ = rd_T37 l0 x := ⟨_, rfl⟩
      rw [← hK] at x0 x1 x2 x3
      have hKs : K.f1.size ≤ 1048576 := by
        rw [hK]; unfold rd_T37
        rw [List.getD_eq_getElem?_getD, List.getElem?_eq_getElem (show x.toNat < l0.length by omega), Option.getD_some]
        exact HA.out _ (List.getElem_mem _)
      clear hK
      replace x0 := (hB.cell (World.block_lt_of_cell? w _ x0)).trans x0
      replace x1 := (hB.cell (World.block_lt_of_cell? w _ x1)).trans x1
      replace x2 := (hB.cell (World.block_lt_of_cell? w _ x2)).trans x2
      replace x3 := (hB.cell (World.block_lt_of_cell? w _ x3)).trans x3
      obtain ⟨p, e1, hp⟩ : ∃ p e1, lineS K.f0 K.f1.data.toList K.f2 K.f3 = (p, e1) := ⟨_, _, rfl⟩
      replace hp := Lib.hid hp
      replace hB := Lib.hid hB
      go_wp2_with (first
        | (go_at_call 17; (with_reducible refine (line_as hp.out _ (Tb.below HTb.out hB.out) hKs).mono ?_); rintro e w2 ⟨rfl, hb2⟩; replace x0 := (hb2.cell (World.block_lt_of_cell? _ _ x0)).trans x0; replace x1 := (hb2.cell (World.block_lt_of_cell? _ _ x1)).trans x1; replace x2 := (hb2.cell (World.block_lt_of_cell? _ _ x2)).trans x2; replace x3 := (hb2.cell (World.block_lt_of_cell? _ _ x3)).trans x3; replace hB := Lib.hid (bel_call hB.out hb2); clear hb2)
        | (go_at_call 18; (with_reducible refine (rline_as hp.out _ hKs).mono ?_); rintro e w3 ⟨rfl, hb3⟩; replace hB := Lib.hid (bel_call hB.out hb3); clear hb3))
      go_roundw
      case rel => exact ⟨x + 1, by go_num, ⟨by omega, by omega⟩, hB.out⟩
      case measure => simp [intOf]; omega
    · go_wp2
      go_ret
      exact ⟨rfl, hB⟩
end Go.Proofs.YtibgefampokfkaaDoor.Sc
