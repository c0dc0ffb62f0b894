/-
  No cell of these rows narrows 'for every input' (looked for: loops, veiled, ifaces, maps, wideKeys, modest, calm, conditions, laid).
  DERIVED. THE GIVEN ROWS OF THIS SEAT. 10 by the template 'for every input the law returns true; each argument reads behind the call as it read before'; 0 by the template 'total and deterministic' (their statements: YtgkaiagoogjibaaTotals.lean).
  GIVEN WITH THE SEED: the statements are not yours to turn. If you find one false, say at which input.
  Laid BY PROGRAM, IN A SANDBOX (cutbox-rows.mjs): the forced cells as the released guide's own fill.sh prints them over the translation d406616970d0d600… (all of the seat's roots in one cut). By AI agents, Wed Nov 11 2026. No macro, syntax, notation, axiom, sorry.
-/
import Derived.Test.YtgkaiagoogjibaaChecked
import GoSem.Claim
import GoSem.ClaimJoined
import GoSem.ClaimMapViews
import Derived.JoinedTies
import Derived.KernelRfl
namespace Go.Proofs.Ytgkaiagoogjibaa
/- THE CELL 'sum', in the pinned program and in every row, IS THE sha256 OF THE DUMP (.gsa) THAT YtgkaiagoogjibaaProg.lean LOADS. Nothing in Lean hashes anything: it is a label: what it is worth is what the hold of that sum in a sandbox is worth. -/
noncomputable def Try.pinned : Pinned := { name := "ytgkaiagoogjibaa", sum := "d406616970d0d6001d49524d3f08edc8bd96bd35a7db3e668b7295a4360db8ac", checked := Try.checked }
namespace Rows
def none {H : Type} : Left H := { results := [], args := [] }

/-- 'bodkinlaw06.GapNames': WHATEVER THE INPUT: true; the input reads as it did. -/
def gapNamesSpec : ChangeSpec := { name := "gapNames", fn := fun _ => fun
  | [] => { results := [.lit (.bool true)], args := [] }
  | _ => none }
def gapNamesRow : OpenClaim := { program := "ytgkaiagoogjibaa", sum := "d406616970d0d6001d49524d3f08edc8bd96bd35a7db3e668b7295a4360db8ac", func := "bodkin/bodkinlaw06.GapNames", spec := "gapNames", apart := false }
def GapNamesSaid : Prop := gapNamesRow.holds Try.pinned (OpenSpec.ofChange gapNamesSpec)

/-- ITS FALSE NEIGHBOUR: 'it returns false'. Refute it at one input. -/
def gapNamesWrong : ChangeSpec := { name := "gapNames", fn := fun _ => fun
  | [] => { results := [.lit (.bool false)], args := [] }
  | _ => none }
def GapNamesWrongFalsely : Prop := gapNamesRow.holds Try.pinned (OpenSpec.ofChange gapNamesWrong)

/-- 'bodkinlaw18.KeysNames': WHATEVER THE INPUT: true; the input reads as it did. -/
def keysNamesSpec : ChangeSpec := { name := "keysNames", fn := fun _ => fun
  | [] => { results := [.lit (.bool true)], args := [] }
  | _ => none }
def keysNamesRow : OpenClaim := { program := "ytgkaiagoogjibaa", sum := "d406616970d0d6001d49524d3f08edc8bd96bd35a7db3e668b7295a4360db8ac", func := "bodkin/bodkinlaw18.KeysNames", spec := "keysNames", apart := false }
def KeysNamesSaid : Prop := keysNamesRow.holds Try.pinned (OpenSpec.ofChange keysNamesSpec)

/-- ITS FALSE NEIGHBOUR: 'it returns false'. Refute it at one input. -/
def keysNamesWrong : ChangeSpec := { name := "keysNames", fn := fun _ => fun
  | [] => { results := [.lit (.bool false)], args := [] }
  | _ => none }
def KeysNamesWrongFalsely : Prop := keysNamesRow.holds Try.pinned (OpenSpec.ofChange keysNamesWrong)

/-- 'bodkinlaw21.PaintNames': WHATEVER THE INPUT: true; the input reads as it did. -/
def paintNamesSpec : ChangeSpec := { name := "paintNames", fn := fun _ => fun
  | [] => { results := [.lit (.bool true)], args := [] }
  | _ => none }
def paintNamesRow : OpenClaim := { program := "ytgkaiagoogjibaa", sum := "d406616970d0d6001d49524d3f08edc8bd96bd35a7db3e668b7295a4360db8ac", func := "bodkin/bodkinlaw21.PaintNames", spec := "paintNames", apart := false }
def PaintNamesSaid : Prop := paintNamesRow.holds Try.pinned (OpenSpec.ofChange paintNamesSpec)

/-- ITS FALSE NEIGHBOUR: 'it returns false'. Refute it at one input. -/
def paintNamesWrong : ChangeSpec := { name := "paintNames", fn := fun _ => fun
  | [] => { results := [.lit (.bool false)], args := [] }
  | _ => none }
def PaintNamesWrongFalsely : Prop := paintNamesRow.holds Try.pinned (OpenSpec.ofChange paintNamesWrong)

/-- 'bodkinlaw24.ScriptNames': WHATEVER THE INPUT: true; the input reads as it did. -/
def scriptNamesSpec : ChangeSpec := { name := "scriptNames", fn := fun _ => fun
  | [] => { results := [.lit (.bool true)], args := [] }
  | _ => none }
def scriptNamesRow : OpenClaim := { program := "ytgkaiagoogjibaa", sum := "d406616970d0d6001d49524d3f08edc8bd96bd35a7db3e668b7295a4360db8ac", func := "bodkin/bodkinlaw24.ScriptNames", spec := "scriptNames", apart := false }
def ScriptNamesSaid : Prop := scriptNamesRow.holds Try.pinned (OpenSpec.ofChange scriptNamesSpec)

/-- ITS FALSE NEIGHBOUR: 'it returns false'. Refute it at one input. -/
def scriptNamesWrong : ChangeSpec := { name := "scriptNames", fn := fun _ => fun
  | [] => { results := [.lit (.bool false)], args := [] }
  | _ => none }
def ScriptNamesWrongFalsely : Prop := scriptNamesRow.holds Try.pinned (OpenSpec.ofChange scriptNamesWrong)

/-- 'bodkinlaw19.BindTable': WHATEVER THE INPUT: true; the input reads as it did. -/
def bindTableSpec : ChangeSpec := { name := "bindTable", fn := fun _ => fun
  | [d] => { results := [.lit (.bool true)], args := [d] }
  | _ => none }
def bindTableRow : OpenClaim := { program := "ytgkaiagoogjibaa", sum := "d406616970d0d6001d49524d3f08edc8bd96bd35a7db3e668b7295a4360db8ac", func := "bodkin/bodkinlaw19.BindTable", spec := "bindTable", apart := false }
def BindTableSaid : Prop := bindTableRow.holds Try.pinned (OpenSpec.ofChange bindTableSpec)

/-- ITS FALSE NEIGHBOUR: 'it returns false'. Refute it at one input. -/
def bindTableWrong : ChangeSpec := { name := "bindTable", fn := fun _ => fun
  | [d] => { results := [.lit (.bool false)], args := [d] }
  | _ => none }
def BindTableWrongFalsely : Prop := bindTableRow.holds Try.pinned (OpenSpec.ofChange bindTableWrong)

/-- 'bodkinlaw19.BindCommands': WHATEVER THE INPUT: true; the input reads as it did. -/
def bindCommandsSpec : ChangeSpec := { name := "bindCommands", fn := fun _ => fun
  | [d] => { results := [.lit (.bool true)], args := [d] }
  | _ => none }
def bindCommandsRow : OpenClaim := { program := "ytgkaiagoogjibaa", sum := "d406616970d0d6001d49524d3f08edc8bd96bd35a7db3e668b7295a4360db8ac", func := "bodkin/bodkinlaw19.BindCommands", spec := "bindCommands", apart := false }
def BindCommandsSaid : Prop := bindCommandsRow.holds Try.pinned (OpenSpec.ofChange bindCommandsSpec)

/-- ITS FALSE NEIGHBOUR: 'it returns false'. Refute it at one input. -/
def bindCommandsWrong : ChangeSpec := { name := "bindCommands", fn := fun _ => fun
  | [d] => { results := [.lit (.bool false)], args := [d] }
  | _ => none }
def BindCommandsWrongFalsely : Prop := bindCommandsRow.holds Try.pinned (OpenSpec.ofChange bindCommandsWrong)

/-- 'bodkinlaw19.BindOne': WHATEVER THE INPUT: true; the input reads as it did. -/
def bindOneSpec : ChangeSpec := { name := "bindOne", fn := fun _ => fun
  | [d] => { results := [.lit (.bool true)], args := [d] }
  | _ => none }
def bindOneRow : OpenClaim := { program := "ytgkaiagoogjibaa", sum := "d406616970d0d6001d49524d3f08edc8bd96bd35a7db3e668b7295a4360db8ac", func := "bodkin/bodkinlaw19.BindOne", spec := "bindOne", apart := false }
def BindOneSaid : Prop := bindOneRow.holds Try.pinned (OpenSpec.ofChange bindOneSpec)

/-- ITS FALSE NEIGHBOUR: 'it returns false'. Refute it at one input. -/
def bindOneWrong : ChangeSpec := { name := "bindOne", fn := fun _ => fun
  | [d] => { results := [.lit (.bool false)], args := [d] }
  | _ => none }
def BindOneWrongFalsely : Prop := bindOneRow.holds Try.pinned (OpenSpec.ofChange bindOneWrong)

/-- 'bodkinlaw19.BindCounts': WHATEVER THE INPUT: true; the input reads as it did. -/
def bindCountsSpec : ChangeSpec := { name := "bindCounts", fn := fun _ => fun
  | [d1, d2, d3] => { results := [.lit (.bool true)], args := [d1, d2, d3] }
  | _ => none }
def bindCountsRow : OpenClaim := { program := "ytgkaiagoogjibaa", sum := "d406616970d0d6001d49524d3f08edc8bd96bd35a7db3e668b7295a4360db8ac", func := "bodkin/bodkinlaw19.BindCounts", spec := "bindCounts", apart := false }
def BindCountsSaid : Prop := bindCountsRow.holds Try.pinned (OpenSpec.ofChange bindCountsSpec)

/-- ITS FALSE NEIGHBOUR: 'it returns false'. Refute it at one input. -/
def bindCountsWrong : ChangeSpec := { name := "bindCounts", fn := fun _ => fun
  | [d1, d2, d3] => { results := [.lit (.bool false)], args := [d1, d2, d3] }
  | _ => none }
def BindCountsWrongFalsely : Prop := bindCountsRow.holds Try.pinned (OpenSpec.ofChange bindCountsWrong)

/-- 'bodkinlaw19.BindKeys': WHATEVER THE INPUT: true; the input reads as it did. -/
def bindKeysSpec : ChangeSpec := { name := "bindKeys", fn := fun _ => fun
  | [d1, d2] => { results := [.lit (.bool true)], args := [d1, d2] }
  | _ => none }
def bindKeysRow : OpenClaim := { program := "ytgkaiagoogjibaa", sum := "d406616970d0d6001d49524d3f08edc8bd96bd35a7db3e668b7295a4360db8ac", func := "bodkin/bodkinlaw19.BindKeys", spec := "bindKeys", apart := false }
def BindKeysSaid : Prop := bindKeysRow.holds Try.pinned (OpenSpec.ofChange bindKeysSpec)

/-- ITS FALSE NEIGHBOUR: 'it returns false'. Refute it at one input. -/
def bindKeysWrong : ChangeSpec := { name := "bindKeys", fn := fun _ => fun
  | [d1, d2] => { results := [.lit (.bool false)], args := [d1, d2] }
  | _ => none }
def BindKeysWrongFalsely : Prop := bindKeysRow.holds Try.pinned (OpenSpec.ofChange bindKeysWrong)

/-- 'bodkinlaw19.BindNone': WHATEVER THE INPUT: true; the input reads as it did. -/
def bindNoneSpec : ChangeSpec := { name := "bindNone", fn := fun _ => fun
  | [d] => { results := [.lit (.bool true)], args := [d] }
  | _ => none }
def bindNoneRow : OpenClaim := { program := "ytgkaiagoogjibaa", sum := "d406616970d0d6001d49524d3f08edc8bd96bd35a7db3e668b7295a4360db8ac", func := "bodkin/bodkinlaw19.BindNone", spec := "bindNone", apart := false }
def BindNoneSaid : Prop := bindNoneRow.holds Try.pinned (OpenSpec.ofChange bindNoneSpec)

/-- ITS FALSE NEIGHBOUR: 'it returns false'. Refute it at one input. -/
def bindNoneWrong : ChangeSpec := { name := "bindNone", fn := fun _ => fun
  | [d] => { results := [.lit (.bool false)], args := [d] }
  | _ => none }
def BindNoneWrongFalsely : Prop := bindNoneRow.holds Try.pinned (OpenSpec.ofChange bindNoneWrong)

/- THE SECOND FORM. 'bulk': how many values and letters a reading holds, each counted each time it is reached (what is shared counts as often as it is met; a slice's spare places count too). A statement '..UptoSaid' is the law's where the arguments, and the package variables that the reading takes, are together of bulk at most 1048576: NARROWER than '..Said'. Prove '..Said' where nothing that the law and all that it calls make is longer than what came in: it says more and counts as full. Else prove '..UptoSaid'. A law counts once. -/
mutual
def uptoBulk {H : Type} : DataW H → Nat
  | .lit (.string bytes) => bytes.length + 1
  | .lit _ => 1
  | .nil => 1
  | .ptr d => uptoBulk d + 1
  | .slice elems spare => uptoBulkAll elems + uptoBulkAll spare + 1
  | .agg parts => uptoBulkAll parts + 1
  | .iface _ d => uptoBulk d + 1
  | .map entries => uptoBulkEntries entries + 1
  | .held _ => 1
def uptoBulkAll {H : Type} : List (DataW H) → Nat
  | [] => 0
  | d :: r => uptoBulk d + uptoBulkAll r
def uptoBulkEntries {H : Type} : List (Lit × DataW H) → Nat
  | [] => 0
  | x :: r => uptoBulkEntry x + uptoBulkEntries r
def uptoBulkEntry {H : Type} : Lit × DataW H → Nat
  | (.string bytes, d) => bytes.length + uptoBulk d + 1
  | (_, d) => uptoBulk d + 1
 end
def uptoSmall : (H : Type) → List (DataW H) → Bool := fun _ ds => decide (uptoBulkAll ds ≤ 1048576)
def OpenSpec.upto (s : _root_.Go.ChangeSpec) : _root_.Go.OpenSpec := { _root_.Go.OpenSpec.ofChange s with cond := some uptoSmall }

/-- 'bodkinlaw06.GapNames', WHERE WHAT IT READS IS OF BULK AT MOST 1048576: true; the input reads as it did. -/
def gapNamesUptoRow : OpenClaim := { program := "ytgkaiagoogjibaa", sum := "d406616970d0d6001d49524d3f08edc8bd96bd35a7db3e668b7295a4360db8ac", func := "bodkin/bodkinlaw06.GapNames", spec := "gapNames", apart := false, narrowed := true }
def GapNamesUptoSaid : Prop := gapNamesUptoRow.holds Try.pinned (OpenSpec.upto gapNamesSpec)

/-- 'bodkinlaw18.KeysNames', WHERE WHAT IT READS IS OF BULK AT MOST 1048576: true; the input reads as it did. -/
def keysNamesUptoRow : OpenClaim := { program := "ytgkaiagoogjibaa", sum := "d406616970d0d6001d49524d3f08edc8bd96bd35a7db3e668b7295a4360db8ac", func := "bodkin/bodkinlaw18.KeysNames", spec := "keysNames", apart := false, narrowed := true }
def KeysNamesUptoSaid : Prop := keysNamesUptoRow.holds Try.pinned (OpenSpec.upto keysNamesSpec)

/-- 'bodkinlaw21.PaintNames', WHERE WHAT IT READS IS OF BULK AT MOST 1048576: true; the input reads as it did. -/
def paintNamesUptoRow : OpenClaim := { program := "ytgkaiagoogjibaa", sum := "d406616970d0d6001d49524d3f08edc8bd96bd35a7db3e668b7295a4360db8ac", func := "bodkin/bodkinlaw21.PaintNames", spec := "paintNames", apart := false, narrowed := true }
def PaintNamesUptoSaid : Prop := paintNamesUptoRow.holds Try.pinned (OpenSpec.upto paintNamesSpec)

/-- 'bodkinlaw24.ScriptNames', WHERE WHAT IT READS IS OF BULK AT MOST 1048576: true; the input reads as it did. -/
def scriptNamesUptoRow : OpenClaim := { program := "ytgkaiagoogjibaa", sum := "d406616970d0d6001d49524d3f08edc8bd96bd35a7db3e668b7295a4360db8ac", func := "bodkin/bodkinlaw24.ScriptNames", spec := "scriptNames", apart := false, narrowed := true }
def ScriptNamesUptoSaid : Prop := scriptNamesUptoRow.holds Try.pinned (OpenSpec.upto scriptNamesSpec)

/-- 'bodkinlaw19.BindTable', WHERE WHAT IT READS IS OF BULK AT MOST 1048576: true; the input reads as it did. -/
def bindTableUptoRow : OpenClaim := { program := "ytgkaiagoogjibaa", sum := "d406616970d0d6001d49524d3f08edc8bd96bd35a7db3e668b7295a4360db8ac", func := "bodkin/bodkinlaw19.BindTable", spec := "bindTable", apart := false, narrowed := true }
def BindTableUptoSaid : Prop := bindTableUptoRow.holds Try.pinned (OpenSpec.upto bindTableSpec)

/-- 'bodkinlaw19.BindCommands', WHERE WHAT IT READS IS OF BULK AT MOST 1048576: true; the input reads as it did. -/
def bindCommandsUptoRow : OpenClaim := { program := "ytgkaiagoogjibaa", sum := "d406616970d0d6001d49524d3f08edc8bd96bd35a7db3e668b7295a4360db8ac", func := "bodkin/bodkinlaw19.BindCommands", spec := "bindCommands", apart := false, narrowed := true }
def BindCommandsUptoSaid : Prop := bindCommandsUptoRow.holds Try.pinned (OpenSpec.upto bindCommandsSpec)

/-- 'bodkinlaw19.BindOne', WHERE WHAT IT READS IS OF BULK AT MOST 1048576: true; the input reads as it did. -/
def bindOneUptoRow : OpenClaim := { program := "ytgkaiagoogjibaa", sum := "d406616970d0d6001d49524d3f08edc8bd96bd35a7db3e668b7295a4360db8ac", func := "bodkin/bodkinlaw19.BindOne", spec := "bindOne", apart := false, narrowed := true }
def BindOneUptoSaid : Prop := bindOneUptoRow.holds Try.pinned (OpenSpec.upto bindOneSpec)

/-- 'bodkinlaw19.BindCounts', WHERE WHAT IT READS IS OF BULK AT MOST 1048576: true; the input reads as it did. -/
def bindCountsUptoRow : OpenClaim := { program := "ytgkaiagoogjibaa", sum := "d406616970d0d6001d49524d3f08edc8bd96bd35a7db3e668b7295a4360db8ac", func := "bodkin/bodkinlaw19.BindCounts", spec := "bindCounts", apart := false, narrowed := true }
def BindCountsUptoSaid : Prop := bindCountsUptoRow.holds Try.pinned (OpenSpec.upto bindCountsSpec)

/-- 'bodkinlaw19.BindKeys', WHERE WHAT IT READS IS OF BULK AT MOST 1048576: true; the input reads as it did. -/
def bindKeysUptoRow : OpenClaim := { program := "ytgkaiagoogjibaa", sum := "d406616970d0d6001d49524d3f08edc8bd96bd35a7db3e668b7295a4360db8ac", func := "bodkin/bodkinlaw19.BindKeys", spec := "bindKeys", apart := false, narrowed := true }
def BindKeysUptoSaid : Prop := bindKeysUptoRow.holds Try.pinned (OpenSpec.upto bindKeysSpec)

/-- 'bodkinlaw19.BindNone', WHERE WHAT IT READS IS OF BULK AT MOST 1048576: true; the input reads as it did. -/
def bindNoneUptoRow : OpenClaim := { program := "ytgkaiagoogjibaa", sum := "d406616970d0d6001d49524d3f08edc8bd96bd35a7db3e668b7295a4360db8ac", func := "bodkin/bodkinlaw19.BindNone", spec := "bindNone", apart := false, narrowed := true }
def BindNoneUptoSaid : Prop := bindNoneUptoRow.holds Try.pinned (OpenSpec.upto bindNoneSpec)

end Rows
end Go.Proofs.Ytgkaiagoogjibaa
