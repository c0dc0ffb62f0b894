/- Rows of uint16s and of summaries opened. -/
import Derived.Test.YtoodidokjchplaaDoorOp
import Derived.Test.YtoodidokjchplaaDoorCU
namespace Go.Proofs.YtoodidokjchplaaDoor.Op
open Go.ChangeShapes Go.WideShapes Go.ChangeAt Go.RowKit Go.Deep
set_option linter.unusedVariables false
section
variable {H : Type} {enc : TypeId × Value → H} {W : World} {base : Nat} {sp : Nat → Bool} {held : Bool}
theorem open_u16 {fuel : Nat} {a : Option Addr} {len cap : Nat} {x : DataW H × List MemPlace} (h : DataW.trod enc Tryd.prog W base sp held fuel 39 [.slice a len cap] = some x) :
    ∃ l : List UInt16, l.length = len ∧ Un.RdC W a l ∧ len + 1 ≤ Rows.uptoBulk x.1 := by
  obtain ⟨l, h1, h2, -, -, h4, -⟩ := open_row (H := H) (enc := enc) (W := W) 1 (fun (n : UInt16) cs => cs = [.int .u16 n.toNat]) 0 (fun _ _ => True) (e := 40) (by kernel_rfl) (fun n cs x _ h => by
    obtain ⟨k, rfl, hx, hw⟩ := DataW.trod_int Tryd.underlying40 h
    refine ⟨UInt16.ofNat k.toNat, trivial, ?_⟩
    have hk : 0 ≤ k ∧ k < 65536 := by simp [Lit.wf, show IntKind.u16.min = 0 from rfl, show IntKind.u16.max = 65535 from rfl] at hw; omega
    have e : ((UInt16.ofNat k.toNat).toNat : Int) = k := by rw [UInt16.toNat_ofNat']; omega
    rw [e]) Tryd.underlying39 h
  refine ⟨l, h1, fun i hi => ?_, h4⟩
  obtain ⟨ad, e, c, hc, rfl, hcell⟩ := h2 i hi
  refine ⟨ad, e, ?_⟩
  have := hcell 0 _ rfl
  rwa [Nat.mul_one] at this
end
end Go.Proofs.YtoodidokjchplaaDoor.Op
