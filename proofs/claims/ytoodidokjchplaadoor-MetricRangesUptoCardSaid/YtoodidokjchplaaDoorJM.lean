/- Summaries of texts, joined: plain facts. -/
import Derived.Test.YtoodidokjchplaaDoorJN
namespace Go.Proofs.YtoodidokjchplaaDoor.Un
open Go Go.RowKit Go.Shelf
open Go.Proofs.YtoodidokjchplaaDoor.Wk (size_len)
set_option linter.unusedVariables false
set_option linter.unusedSimpArgs false
def toR (m : Sm) : Sr := ⟨m.by', m.un, m.cl, m.ce, m.nl, ⟨m.hd.toArray⟩, ⟨m.tl.toArray⟩⟩
theorem smV_toR (m : Sm) : smV m = (toR m).v := rfl
def mR (l : List UInt8) : Sr := toR (meas l)
theorem w64_id {x : Int} (h : -9223372036854775808 ≤ x ∧ x ≤ 9223372036854775807) : IntKind.i64.wrap x = x := by rw [IntKind.wrap_i64]; omega
theorem hd_le (l : List UInt8) : (hd l).length ≤ 16 ∧ (hd l).length ≤ l.length := by rw [hd_len]; omega
theorem tl_le (l : List UInt8) : (tl l).length ≤ 16 ∧ (tl l).length ≤ l.length := by rw [tl_len]; omega
theorem app_data (a b : List UInt8) : ((⟨a.toArray⟩ : ByteArray) ++ ⟨b.toArray⟩).data.toList = a ++ b := by simp
theorem pair_R (a b : List UInt8) (h : (a ++ b).length ≤ 1000000000) : pairR (mR a) (mR b) = mR (a ++ b) := by
  have hab : (a ++ b).length = a.length + b.length := List.length_append
  have e := pair_meas a b
  unfold mR
  rw [← e]
  have u1 := cU_le a; have u2 := cU_le b; have u3 := cU_le (tl a ++ hd b); have u4 := cU_le (tl a); have u5 := cU_le (hd b)
  have c1 := cC_le a; have c2 := cC_le b; have c3 := cC_le (tl a ++ hd b); have c4 := cC_le (tl a); have c5 := cC_le (hd b)
  have x1 := cX_le a; have x2 := cX_le b; have x3 := cX_le (tl a ++ hd b); have x4 := cX_le (tl a); have x5 := cX_le (hd b)
  have n1 := List.count_le_length (a := (10 : UInt8)) (l := a)
  have n2 := List.count_le_length (a := (10 : UInt8)) (l := b)
  have t1 := tl_le a; have t2 := hd_le b
  have l3 : (tl a ++ hd b).length = (tl a).length + (hd b).length := List.length_append
  unfold pairR pairS toR meas
  simp only [app_data, Sr.mk.injEq]
  refine ⟨?_, ?_, ?_, ?_, ?_, ?_, ?_⟩
  · exact w64_id (by omega)
  · rw [w64_id (x := (cU a : Int) + cU b) (by omega), w64_id (x := (cU a : Int) + cU b + cU (tl a ++ hd b)) (by omega), w64_id (x := (cU a : Int) + cU b + cU (tl a ++ hd b) - cU (tl a)) (by omega), w64_id (by omega)]
  · rw [w64_id (x := (cC a : Int) + cC b) (by omega), w64_id (x := (cC a : Int) + cC b + cC (tl a ++ hd b)) (by omega), w64_id (x := (cC a : Int) + cC b + cC (tl a ++ hd b) - cC (tl a)) (by omega), w64_id (by omega)]
  · rw [w64_id (x := cX a + cX b) (by omega), w64_id (x := cX a + cX b + cX (tl a ++ hd b)) (by omega), w64_id (x := cX a + cX b + cX (tl a ++ hd b) - cX (tl a)) (by omega), w64_id (by omega)]
  · exact w64_id (by omega)
  · unfold hdR
    show (if (⟨(hd a).toArray⟩ : ByteArray).size < 16 then _ else _) = _
    rw [← size_len]
    show (if (hd a).length < 16 then _ else _) = _
    by_cases q : (hd a).length < 16
    · rw [if_pos q, if_pos q, app_data]
    · rw [if_neg q, if_neg q]
  · unfold tlR
    show (if (⟨(tl b).toArray⟩ : ByteArray).size < 16 then _ else _) = _
    rw [← size_len]
    show (if (tl b).length < 16 then _ else _) = _
    by_cases q : (tl b).length < 16
    · rw [if_pos q, if_pos q, app_data]
    · rw [if_neg q, if_neg q]
theorem mR_z : mR [] = Sr.z := by unfold mR; rw [meas_nil]; rfl
theorem mR_zero {a : List UInt8} (h : mR a = Sr.z) : a = [] := by
  have : (mR a).b = 0 := by rw [h]; rfl
  have h2 : (a.length : Int) = 0 := this
  exact List.length_eq_zero_iff.1 (by omega)
theorem join_R : ∀ (L : List (List UInt8)) (a : List UInt8), (a ++ L.flatten).length ≤ 1000000000 → joinR (mR a) (L.map mR) = mR (a ++ L.flatten)
  | [], a, _ => by simp [joinR]
  | b :: r, a, h => by
    rw [List.map_cons, List.flatten_cons, ← List.append_assoc]
    rw [List.flatten_cons, ← List.append_assoc] at h
    have hb : (a ++ b).length ≤ 1000000000 := by rw [List.length_append] at h; omega
    unfold joinR
    have e : (if eqS (mR a) Sr.z = true then mR b else pairR (mR a) (mR b)) = mR (a ++ b) := by
      by_cases q : mR a = Sr.z
      · rw [if_pos ((eqS_iff _ _).2 q), mR_zero q]; rfl
      · rw [if_neg (fun c => q ((eqS_iff _ _).1 c)), pair_R a b hb]
    rw [e]
    exact join_R r (a ++ b) h
theorem join_R0 (L : List (List UInt8)) (h : L.flatten.length ≤ 1000000000) : joinR Sr.z (L.map mR) = mR L.flatten := by
  rw [← mR_z, join_R L [] (by simpa using h)]
  rfl
theorem mR_sizes (l : List UInt8) : (mR l).h.size ≤ 400000000 ∧ (mR l).t.size ≤ 400000000 := by
  have h1 := hd_le l
  have h2 := tl_le l
  have e1 : (mR l).h.size = (hd l).length := by rw [← size_len]; rfl
  have e2 : (mR l).t.size = (tl l).length := by rw [← size_len]; rfl
  omega
end Go.Proofs.YtoodidokjchplaaDoor.Un
