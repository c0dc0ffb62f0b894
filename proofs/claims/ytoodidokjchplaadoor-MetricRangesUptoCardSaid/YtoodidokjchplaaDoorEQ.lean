/- Two summaries compared: one Bool. -/
import Derived.Test.YtoodidokjchplaaDoorCZ
import Derived.Laws.StructEq
namespace Go.Proofs.YtoodidokjchplaaDoor.Un
open Go Go.RowKit Go.Shelf
set_option linter.unusedVariables false
set_option linter.unusedSimpArgs false
section
variable {P : Program} {d : Nat} {xs ys : Array Value} {f : Field} {fs : List Field} {a b : Value} {r s : Bool} {w : World}
/-- The last field that counts. -/
theorem eqf_last (hn : (f.name == "_") = false) (ha : (part f.type xs f.offset).run P w = .ok a w) (hb : (part f.type ys f.offset).run P w = .ok b w) (he : (Op.equalIn d f.type a b).run P w = .ok r w) : (Op.eqFields d xs ys [f]).run P w = .ok r w := by
  have hn' : f.name ≠ "_" := by simpa using hn
  simp only [Op.eqFields, if_pos hn', Sem.run_bind, ha, hb, he, Result.andThen_ok]
  cases r <;> simp
theorem eqf_cons (hn : (f.name == "_") = false) (ha : (part f.type xs f.offset).run P w = .ok a w) (hb : (part f.type ys f.offset).run P w = .ok b w) (he : (Op.equalIn d f.type a b).run P w = .ok r w) (hr : (Op.eqFields d xs ys fs).run P w = .ok s w) : (Op.eqFields d xs ys (f :: fs)).run P w = .ok (r && s) w := by
  have hn' : f.name ≠ "_" := by simpa using hn
  rw [Op.eqFields]
  simp only [if_pos hn', Sem.run_bind, ha, hb, he, Result.andThen_ok]
  cases r
  · simp
  · simpa using hr
/-- The last that counts, behind it such as_ don't. -/
theorem eqf_end (hn : (f.name == "_") = false) (ha : (part f.type xs f.offset).run P w = .ok a w) (hb : (part f.type ys f.offset).run P w = .ok b w) (he : (Op.equalIn d f.type a b).run P w = .ok r w) (hr : (Op.eqFields d xs ys fs).run P w = .ok true w) : (Op.eqFields d xs ys (f :: fs)).run P w = .ok r w := by
  have h := eqf_cons hn ha hb he hr
  rwa [Bool.and_true] at h
/-- A field named _ doesn't count. -/
theorem eqf_skip (hn : (f.name == "_") = true) (hr : (Op.eqFields d xs ys fs).run P w = .ok s w) : (Op.eqFields d xs ys (f :: fs)).run P w = .ok s w := by
  have hn' : ¬ (f.name ≠ "_") := by simpa using hn
  rw [Op.eqFields, if_neg hn']
  exact hr
theorem eqf_nil : (Op.eqFields d xs ys []).run P w = .ok true w := by simp [Op.eqFields]
theorem eqA_of {t : TypeId} {fs : Array Field} (hu : P.underlying t = some (.struct fs)) (hp : P.stoodInHeld t = false) (h : (Op.eqFields d xs ys fs.toList).run P w = .ok r w) : (Op.equalIn (d + 1) t (.agg xs) (.agg ys)).run P w = .ok r w := by
  have hf : P.fieldsOf t = fs := by simp [Program.fieldsOf, hu]
  rw [run_equalIn_struct (P := P) w d t xs ys (by rw [hf]; exact hu) hp, hf]
  exact h
end
theorem eqR26 (d : Nat) (w : World) (x0 y0 : Int) (x1 y1 : Int) (x2 y2 : Int) (x3 y3 : Int) (x4 y4 : Int) (x5 y5 : ByteArray) (x6 y6 : ByteArray) :
    (Op.equalIn (d + 2) 26 (.agg #[.int .i64 x0, .int .i64 x1, .int .i64 x2, .int .i64 x3, .int .i64 x4, .string x5, .string x6]) (.agg #[.int .i64 y0, .int .i64 y1, .int .i64 y2, .int .i64 y3, .int .i64 y4, .string y5, .string y6])).run Tryd.prog w = .ok (x0 == y0 && (x1 == y1 && (x2 == y2 && (x3 == y3 && (x4 == y4 && (x5.toList == y5.toList && (x6.toList == y6.toList))))))) w := by
  refine eqA_of Tryd.underlying26 (by kernel_rfl) ?_
  refine eqf_cons (by rfl) (by go_simp; rfl) (by go_simp; rfl) (by go_simp) ?_
  refine eqf_cons (by rfl) (by go_simp; rfl) (by go_simp; rfl) (by go_simp) ?_
  refine eqf_cons (by rfl) (by go_simp; rfl) (by go_simp; rfl) (by go_simp) ?_
  refine eqf_cons (by rfl) (by go_simp; rfl) (by go_simp; rfl) (by go_simp) ?_
  refine eqf_cons (by rfl) (by go_simp; rfl) (by go_simp; rfl) (by go_simp) ?_
  refine eqf_cons (by rfl) (by go_simp; rfl) (by go_simp; rfl) (by go_simp) ?_
  exact eqf_last (by rfl) (by go_simp; rfl) (by go_simp; rfl) (by go_simp)
def eqB (x0 y0 : Int) (x1 y1 : Int) (x2 y2 : Int) (x3 y3 : Int) (x4 y4 : Int) (x5 y5 : ByteArray) (x6 y6 : ByteArray) : Bool :=
  x0 == y0 && (x1 == y1 && (x2 == y2 && (x3 == y3 && (x4 == y4 && (x5.toList == y5.toList && (x6.toList == y6.toList))))))
theorem eqA26 (d : Nat) (w : World) (x0 y0 : Int) (x1 y1 : Int) (x2 y2 : Int) (x3 y3 : Int) (x4 y4 : Int) (x5 y5 : ByteArray) (x6 y6 : ByteArray) :
    (Op.equalIn (d + 2) 26 (.agg #[.int .i64 x0, .int .i64 x1, .int .i64 x2, .int .i64 x3, .int .i64 x4, .string x5, .string x6]) (.agg #[.int .i64 y0, .int .i64 y1, .int .i64 y2, .int .i64 y3, .int .i64 y4, .string y5, .string y6])).run Tryd.prog w = .ok (eqB x0 y0 x1 y1 x2 y2 x3 y3 x4 y4 x5 y5 x6 y6) w := eqR26 d w x0 y0 x1 y1 x2 y2 x3 y3 x4 y4 x5 y5 x6 y6
theorem toList_iff (x y : ByteArray) : x.toList = y.toList ↔ x = y := by
  rw [Lib.toList_data, Lib.toList_data]
  constructor
  · intro h
    obtain ⟨⟨a⟩⟩ := x
    obtain ⟨⟨b⟩⟩ := y
    simp only at h
    rw [h]
  · rintro rfl; rfl
/-- A summary of any numbers and texts. -/
structure Sr where
  b : Int
  u : Int
  c : Int
  x : Int
  n : Int
  h : ByteArray
  t : ByteArray
def Sr.z : Sr := ⟨0, 0, 0, 0, 0, ⟨#[]⟩, ⟨#[]⟩⟩
def Sr.v (m : Sr) : Value := smR m.b m.u m.c m.x m.n m.h m.t
def eqS (m p : Sr) : Bool := eqB m.b p.b m.u p.u m.c p.c m.x p.x m.n p.n m.h p.h m.t p.t
theorem eqS_iff (m p : Sr) : eqS m p = true ↔ m = p := by
  obtain ⟨mb, mu, mc, mx, mn, mh, mt⟩ := m
  obtain ⟨pb, pu, pc, px, pn, ph, pt⟩ := p
  unfold eqS eqB
  simp only [Bool.and_eq_true, beq_iff_eq, toList_iff, Sr.mk.injEq]
theorem eqS_self (m : Sr) : eqS m m = true := (eqS_iff m m).2 rfl
theorem eqS_ne {m p : Sr} (h : m ≠ p) : eqS m p = false := by
  cases e : eqS m p
  · rfl
  · exact absurd ((eqS_iff m p).1 e) h
end Go.Proofs.YtoodidokjchplaaDoor.Un
