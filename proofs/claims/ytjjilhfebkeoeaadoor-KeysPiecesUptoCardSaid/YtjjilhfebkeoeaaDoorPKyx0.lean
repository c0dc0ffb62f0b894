-- written by pp.py of this session's wip: the kit's print, turned in a few places, over this claim's program
import Derived.Test.YtjjilhfebkeoeaaDoorProg
import Derived.Below
import Derived.Deep.Draws
import Derived.Deep.AppendLies
import Derived.Maps.AppendAt
import Derived.OwnWalk
import Derived.Laws.BytesArg
import Derived.Laws.MakeOwn
import Derived.Laws.OwnMore
import Derived.Deep.OwnRows
import Derived.Tactics
import Derived.Lib.ConvBytes
import Derived.Laws.Slices
import Derived.WalkKit
import Derived.KernelRfl
import Derived.RowKit3
import Derived.Deep.LoopGhost
import Derived.Deep.QuietTactic
import Derived.BigQuiet
import Derived.WideLaws
import Derived.Deep.DeepCutAuto
import Derived.Deep.CutBlock
import Derived.Deep.RegionHeld3
import Derived.Laws.Rows
import Derived.Lib.AppendStr
import Derived.ArgAppend
import Derived.Laws.IdiomCopy
import Derived.OrdersHeld
import Derived.Laws.BitsLemmas
import Derived.RowKit
import Derived.BigRegion
import Derived.StillTailTactics
import Derived.Test.YtjjilhfebkeoeaaDoorNx
import Derived.Test.YtjjilhfebkeoeaaDoorShelf
import Derived.Test.YtjjilhfebkeoeaaDoorCut
import Derived.Test.YtjjilhfebkeoeaaDoorWWords
import Derived.Test.YtjjilhfebkeoeaaDoorWLast
import Derived.Test.YtjjilhfebkeoeaaDoorWTab
import Derived.Test.YtjjilhfebkeoeaaDoorWFour
import Derived.Test.YtjjilhfebkeoeaaDoorWQPut
import Derived.Test.YtjjilhfebkeoeaaDoorWApart
import Derived.Test.YtjjilhfebkeoeaaDoorWArr
import Derived.Test.YtjjilhfebkeoeaaDoorWZeros
import Derived.Test.YtjjilhfebkeoeaaDoorWFoot
import Derived.Test.YtjjilhfebkeoeaaDoorWKept
import Derived.Test.YtjjilhfebkeoeaaDoorWShare
import Derived.Test.YtjjilhfebkeoeaaDoorWN
import Derived.Test.YtjjilhfebkeoeaaDoorWFootNe
import Derived.Test.YtjjilhfebkeoeaaDoorWAt
import Derived.Test.YtjjilhfebkeoeaaDoorWEqStruct
import Derived.Test.YtjjilhfebkeoeaaDoorWRepsOne
import Derived.Test.YtjjilhfebkeoeaaDoorWInv
import Derived.Test.YtjjilhfebkeoeaaDoorWInvWords
import Derived.Test.YtjjilhfebkeoeaaDoorWGuard
import Derived.Test.YtjjilhfebkeoeaaDoorWNEv
import Derived.Test.YtjjilhfebkeoeaaDoorWMore
namespace Go.Proofs.YtjjilhfebkeoeaaDoor.PKy
open Go.RowKit Go.Proofs.YtjjilhfebkeoeaaDoorW.PrintWords Go.Proofs.YtjjilhfebkeoeaaDoorW.PrintLast Go.Proofs.YtjjilhfebkeoeaaDoorW.PrintMore
attribute [local go_sem] max2_int min2_int max_two min_two max_three min_three max_four min_four   -- for this text's walks alone
set_option linter.unusedVariables false
set_option linter.unusedSimpArgs false



def errW : Option Int → Value
  | none => .nilIface
  | some c => .iface 0 (.int .i64 c)
theorem errW_none : errW none = .nilIface := rfl
theorem errW_some (c : Int) : errW (some c) = .iface 0 (.int .i64 c) := rfl

-- the values' own types
/-! #### struct type 50 -/
structure S50 where
  f0 : Int
  f1 : Int
  f2 : Bool
  f3 : Bool
  f4 : Bool
  f5 : ByteArray
def z50 : S50 := ⟨(0 : Int), (0 : Int), false, false, false, (⟨#[]⟩ : ByteArray)⟩
def k50 : Kd S50 := Kd.iso (Kd.pair (Kd.int .i64) (Kd.pair (Kd.int .i32) (Kd.pair Kd.bool (Kd.pair Kd.bool (Kd.pair Kd.bool Kd.string))))) (fun x : S50 => (x.f0, x.f1, x.f2, x.f3, x.f4, x.f5))
theorem k50_open {w : World} {x : S50} {cs : List Value} (h : k50.K w x cs) : cs = [.int .i64 x.f0, .int .i32 x.f1, .bool x.f2, .bool x.f3, .bool x.f4, .string x.f5] := by
  obtain ⟨_, _, rfl, rfl, ⟨_, _, rfl, rfl, ⟨_, _, rfl, rfl, ⟨_, _, rfl, rfl, ⟨_, _, rfl, rfl, rfl⟩⟩⟩⟩⟩ := h
  exact rfl
theorem k50_openM {w : World} {base : Nat} {ok : Nat → Prop} {x : S50} {cs : List Value} (h : k50.M w base ok x cs) : cs = [.int .i64 x.f0, .int .i32 x.f1, .bool x.f2, .bool x.f3, .bool x.f4, .string x.f5] := by
  obtain ⟨_, _, rfl, rfl, ⟨_, _, rfl, rfl, ⟨_, _, rfl, rfl, ⟨_, _, rfl, rfl, ⟨_, _, rfl, rfl, rfl⟩⟩⟩⟩⟩ := h
  exact rfl
theorem k50_mk (w : World) (x : S50)  : k50.K w x [.int .i64 x.f0, .int .i32 x.f1, .bool x.f2, .bool x.f3, .bool x.f4, .string x.f5] := ⟨[.int .i64 x.f0], [.int .i32 x.f1, .bool x.f2, .bool x.f3, .bool x.f4, .string x.f5], rfl, rfl, ⟨[.int .i32 x.f1], [.bool x.f2, .bool x.f3, .bool x.f4, .string x.f5], rfl, rfl, ⟨[.bool x.f2], [.bool x.f3, .bool x.f4, .string x.f5], rfl, rfl, ⟨[.bool x.f3], [.bool x.f4, .string x.f5], rfl, rfl, ⟨[.bool x.f4], [.string x.f5], rfl, rfl, rfl⟩⟩⟩⟩⟩
theorem k50_mkM (w : World) (base : Nat) (ok : Nat → Prop) (x : S50)  : k50.M w base ok x [.int .i64 x.f0, .int .i32 x.f1, .bool x.f2, .bool x.f3, .bool x.f4, .string x.f5] := ⟨[.int .i64 x.f0], [.int .i32 x.f1, .bool x.f2, .bool x.f3, .bool x.f4, .string x.f5], rfl, rfl, ⟨[.int .i32 x.f1], [.bool x.f2, .bool x.f3, .bool x.f4, .string x.f5], rfl, rfl, ⟨[.bool x.f2], [.bool x.f3, .bool x.f4, .string x.f5], rfl, rfl, ⟨[.bool x.f3], [.bool x.f4, .string x.f5], rfl, rfl, ⟨[.bool x.f4], [.string x.f5], rfl, rfl, rfl⟩⟩⟩⟩⟩
def rd_T50 (xs : List S50) (i : Int) : S50 := xs.getD i.toNat z50
theorem at_T50 {w : World} {A : Option Addr} {n : Nat} {xs : List S50} (h : Kd.C k50 w A n xs) (i : Int) (h0 : 0 ≤ i) (h1 : i < n) : ∃ ad , A = some ad ∧ w.cell? (ad.add (i.toNat * 6)) = some (.int .i64 (rd_T50 xs i).f0) ∧ w.cell? ⟨(ad.add (i.toNat * 6)).block, (ad.add (i.toNat * 6)).off + 1, none⟩ = some (.int .i32 (rd_T50 xs i).f1) ∧ w.cell? ⟨(ad.add (i.toNat * 6)).block, (ad.add (i.toNat * 6)).off + 2, none⟩ = some (.bool (rd_T50 xs i).f2) ∧ w.cell? ⟨(ad.add (i.toNat * 6)).block, (ad.add (i.toNat * 6)).off + 3, none⟩ = some (.bool (rd_T50 xs i).f3) ∧ w.cell? ⟨(ad.add (i.toNat * 6)).block, (ad.add (i.toNat * 6)).off + 4, none⟩ = some (.bool (rd_T50 xs i).f4) ∧ w.cell? ⟨(ad.add (i.toNat * 6)).block, (ad.add (i.toNat * 6)).off + 5, none⟩ = some (.string (rd_T50 xs i).f5) := by
  obtain ⟨ad, c, e, _, hK, hc0⟩ := Kd.C_get h z50 i h0 h1
  have hc : ∀ j u, c[j]? = some u → w.cell? (ad.add (i.toNat * 6 + j)) = some u := hc0
  obtain rfl := k50_open hK
  exact ⟨ad, e, hc 0 _ rfl, by rw [← add_field _ _ 1 (by omega)]; exact hc 1 _ rfl, by rw [← add_field _ _ 2 (by omega)]; exact hc 2 _ rfl, by rw [← add_field _ _ 3 (by omega)]; exact hc 3 _ rfl, by rw [← add_field _ _ 4 (by omega)]; exact hc 4 _ rfl, by rw [← add_field _ _ 5 (by omega)]; exact hc 5 _ rfl⟩

end Go.Proofs.YtjjilhfebkeoeaaDoor.PKy
