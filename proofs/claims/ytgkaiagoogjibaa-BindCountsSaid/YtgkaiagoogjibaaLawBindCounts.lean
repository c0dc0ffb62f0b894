/- Digits are a count for the next command alone: of any digits, any of them with Meta, any key. -/
-- after the row that the kit's print wrote for BindCounts
import Derived.Test.YtgkaiagoogjibaaRows
import Derived.Test.YtgkaiagoogjibaaBkG
import Derived.Test.YtgkaiagoogjibaaBkKey
import Derived.WalkKit
import Derived.ProofKit
import Derived.OpenShut
import Derived.ShutString
import Derived.ChangeOld
import Derived.Below
import Derived.SizedLaws
namespace Go.Proofs.Ytgkaiagoogjibaa.bindCounts
open Go.ChangeShapes Go.WideShapes Go.ChangeAt Go.RowKit
open Go.ChangeMaps (open_string shut_string)
open Go.Proofs.YtgkaiagoogjibaaW.PrintWords
set_option linter.unusedVariables false
theorem laidOut : laidOutB Try.prog = true := by kernel_rfl
theorem own : ownKnob Try.prog.godebug = none := by kernel_rfl
set_option maxRecDepth 100000 in
theorem lifted (os : Os) (started : os.Started) (H : Type) (enc : TypeId × Value → H) :
    ReturnsInHanded {} Try.checked os 10 .any (Rows.bindCountsSpec.pre6 enc Try.prog Try.f10 Rows.bindCountsRow.domain false) (Rows.bindCountsSpec.post enc Try.prog Try.f10 false true false false) := by
  refine returnsInHanded_of_change_sized (C := Try.checked) own started (by kernel_rfl) Try.func10
    (ChangeSpec.witness6 (enc := enc) (C := Try.checked) false ⟨#[], #[.slice none 0 0, .slice none 0 0, .agg #[.int .i64 0, .int .i32 0, .bool false, .bool false, .bool false, .string ByteArray.empty]], []⟩ 8 (by kernel_rfl) (by kernel_rfl) (by kernel_rfl) (by kernel_rfl)) ?_
  intro W base args ds gs before hval0 hW hcnd hsz0 _
  have hsz : (DataW.weightsEach Try.prog (Try.f10.params.toList ++ Rows.bindCountsSpec.plain.varTypes Try.prog) (ds ++ gs)).all (· ≤ reachBytes) = true := hsz0
  have hval : ∀ (j : Nat) t v, Try.f10.params[j]? = some t → args[j]? = some v → Value.okWide Try.prog W .any base t v := hval0
  have hW' := hW
  obtain ⟨p, q, hA0, hV, rfl, hfz, hnd⟩ := hW
  have hA : DataW.TrodAll enc Try.prog W 0 (fun _ => true) true Try.f10.params.toList args.toList ds p := hA0
  rw [Try.params10] at hA hval hsz
  obtain ⟨v0, vs0, d0, ds0, p0, q0, hargs, rfl, rfl, h0, r0⟩ := trodAll_cons hA
  obtain ⟨v1, vs1, d1, ds1, p1, q1, rfl, rfl, rfl, h1, r1⟩ := trodAll_cons r0
  obtain ⟨v2, vs2, d2, ds2, p2, q2, rfl, rfl, rfl, h2, r2⟩ := trodAll_cons r1
  obtain ⟨rfl, rfl, rfl⟩ := trodAll_nil r2
  obtain rfl : args = #[v0, v1, v2] := by cases args; simp_all
  obtain ⟨rfl, rfl⟩ := trodVars_none hV
  obtain ⟨a0, len0, cap0, rfl⟩ := okWide_slice Try.underlying45 (hval 0 45 v0 rfl rfl)
  obtain ⟨a1, len1, cap1, rfl⟩ := okWide_slice Try.underlying46 (hval 1 46 v1 rfl rfl)
  have k0 := h0
  have k1 := h1
  have k2 := h2
  have lt0 : ∀ x ∈ p0, x.block < W.heap.size := by obtain ⟨m, hm⟩ := k0; exact DataW.trod_lt m _ _ _ hm
  have lt1 : ∀ x ∈ p1, x.block < W.heap.size := by obtain ⟨m, hm⟩ := k1; exact DataW.trod_lt m _ _ _ hm
  have lt2 : ∀ x ∈ p2, x.block < W.heap.size := by obtain ⟨m, hm⟩ := k2; exact DataW.trod_lt m _ _ _ hm
  obtain ⟨l0, hl0, hC0, hc0, -, hb0⟩ : ∃ l : List Int, l.length = len0 ∧ Kd.C (Kd.int .u8) W a0 len0 l ∧ len0 ≤ cap0 ∧ len0 ≤ maxLen ∧ ∀ y ∈ l, 0 ≤ y ∧ y < 256 := by
    obtain ⟨fuel, hf⟩ := h0
    exact Bk.open_byteRow Try.underlying45 Try.underlying5 (by kernel_rfl) (by simpa [Value.cells] using hf)
  obtain ⟨l1, hl1, hC1, hc1, -⟩ : ∃ l : List Bool, l.length = len1 ∧ Kd.C Kd.bool W a1 len1 l ∧ len1 ≤ cap1 ∧ len1 ≤ maxLen := by
    obtain ⟨fuel, hf⟩ := h1
    exact Bk.open_boolRow Try.underlying46 Try.underlying4 (by kernel_rfl) (by simpa [Value.cells] using hf)
  obtain ⟨s, rfl⟩ := Bk.open_keyVal (hval 2 25 v2 rfl rfl) h2
  have y0 : len0 * 1 ≤ 140737488351232 := Bk.sized_rows hsz (j := 0) (t := 45) rfl rfl Try.underlying45 (by kernel_rfl) k0
  clear hA0 hval0 hsz0 hsz
  subst hl0
  subst hl1
  refine (PBind.bodkinlaw19_BindCounts.calls _ a0 cap0 l0 a1 cap1 l1 s.f0 s.f1 s.f2 s.f3 s.f4 s.f5 true W hC0 hc0 hC1 hc1 (Bk.counts_true l0 hb0 l1 (by omega) _ _ _ _ _ _)).mono fun e W' ⟨he, bel⟩ => ?_
  subst he
  exact ⟨_, rfl, _, _, _, [], _, [], hW', trodAll_mk1 (shut_bool Try.underlying4 _), (trodAll_cons_mk (Below.trod laidOut (by kernel_rfl) (of_decide_eq_true (by kernel_rfl)) k0 bel lt0) (trodAll_cons_mk (Below.trod laidOut (by kernel_rfl) (of_decide_eq_true (by kernel_rfl)) k1 bel lt1) (trodAll_cons_mk (Below.trod laidOut (by kernel_rfl) (of_decide_eq_true (by kernel_rfl)) k2 bel lt2) trodAll_mk0))), rfl, bel.frame _, fun h => by cases h⟩
theorem over : Rows.bindCountsRow.holds Try.pinned (OpenSpec.ofChange Rows.bindCountsSpec) :=
  OpenClaim.holds_of_wide 10 Try.f10 rfl rfl rfl rfl rfl rfl rfl ⟨rfl, rfl, rfl, rfl, rfl⟩ rfl rfl rfl rfl rfl (by kernel_rfl) Try.func10 (by kernel_rfl)
    (of_decide_eq_true (by kernel_rfl)) (by unfold Func.isWrapper; first | (rw [if_pos (by decide +kernel)]; kernel_rfl) | (rw [if_neg (by decide +kernel)]; exact ⟨rfl, rfl⟩))
    (fun os started H enc _ => lifted os started H enc)
theorem proved : Rows.BindCountsSaid := over
#print axioms proved
end Go.Proofs.Ytgkaiagoogjibaa.bindCounts
namespace Go.Proofs.Ytgkaiagoogjibaa
/-- The row, under a short name, for the claim. -/
theorem bindCounts_holds : Rows.BindCountsSaid := bindCounts.proved
end Go.Proofs.Ytgkaiagoogjibaa
