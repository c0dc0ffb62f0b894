/-
  DERIVED. GIVEN WITH THE SEED: THE CARDS: each row of YtibgefampokfkaaDoorRows.lean that lists a variable, with what it lists TIED to the program's text (the seventh form; the later family's looks); each row that meets fmt, with fmt's text TOLD by the authors' own Lean function (tested against real Go, not proved from fmt's source: count such statements apart). THE CARD IS WHAT COUNTS. Prove the row's statement (the work); the ties are given (YtibgefampokfkaaDoorTie.lean); close each card by the builder's one call (the guide's Derived/Test/ToyasCard.lean, 'card_holds'). Laid BY PROGRAM, IN A SANDBOX (cutbox-door.mjs). By AI agents, Wed Nov 11 2026. No macro, syntax, notation, axiom, sorry.
-/
import Derived.Test.YtibgefampokfkaaDoorRows
import GoSem.ClaimSeven
namespace Go.Proofs.YtibgefampokfkaaDoor
namespace Rows

/-- THE TIED CARD OF 'bodkinlaw24.ScriptReads'. -/
def scriptReadsCard : Claim7 := { stood := { row := scriptReadsRow, standIns := [], harness := (true, "a0c7fde857c1478abad8a60d569c22d8a63243d81050937cc87e2d35b6590ca7"), looks := false }, kinds := [], alts := [], laidByText := true, laidKinds := [.data, .data, .data, .data, .pinned], laidTests := true, laidLooks := .later }
def ScriptReadsCardSaid : Prop := Claim7.holds Tryd.pinned (.plain (OpenSpec.ofChange scriptReadsSpec)) scriptReadsCard

/-- THE TIED CARD OF 'bodkinlaw24.ScriptPrints'. -/
def scriptPrintsCard : Claim7 := { stood := { row := scriptPrintsRow, standIns := [], harness := (true, "a0c7fde857c1478abad8a60d569c22d8a63243d81050937cc87e2d35b6590ca7"), looks := false }, kinds := [], alts := [], laidByText := true, laidKinds := [.data, .data, .data, .data, .pinned], laidTests := true, laidLooks := .later }
def ScriptPrintsCardSaid : Prop := Claim7.holds Tryd.pinned (.plain (OpenSpec.ofChange scriptPrintsSpec)) scriptPrintsCard

/-- THE TIED CARD OF 'bodkinlaw24.ScriptBacks'. -/
def scriptBacksCard : Claim7 := { stood := { row := scriptBacksRow, standIns := [], harness := (true, "a0c7fde857c1478abad8a60d569c22d8a63243d81050937cc87e2d35b6590ca7"), looks := false }, kinds := [], alts := [], laidByText := true, laidKinds := [.data, .data, .data, .data, .pinned], laidTests := true, laidLooks := .later }
def ScriptBacksCardSaid : Prop := Claim7.holds Tryd.pinned (.plain (OpenSpec.ofChange scriptBacksSpec)) scriptBacksCard

/-- THE TIED CARD OF 'bodkinlaw24.ScriptPieces'. -/
def scriptPiecesCard : Claim7 := { stood := { row := scriptPiecesRow, standIns := [], harness := (true, "a0c7fde857c1478abad8a60d569c22d8a63243d81050937cc87e2d35b6590ca7"), looks := false }, kinds := [], alts := [], laidByText := true, laidKinds := [.data, .data, .data, .data, .pinned], laidTests := true, laidLooks := .later }
def ScriptPiecesCardSaid : Prop := Claim7.holds Tryd.pinned (.plain (OpenSpec.ofChange scriptPiecesSpec)) scriptPiecesCard

/-- THE TIED CARD OF 'bodkinlaw24.ScriptLines'. -/
def scriptLinesCard : Claim7 := { stood := { row := scriptLinesRow, standIns := [], harness := (true, "a0c7fde857c1478abad8a60d569c22d8a63243d81050937cc87e2d35b6590ca7"), looks := false }, kinds := [], alts := [], laidByText := true, laidKinds := [.data, .data, .data, .data, .pinned], laidTests := true, laidLooks := .later }
def ScriptLinesCardSaid : Prop := Claim7.holds Tryd.pinned (.plain (OpenSpec.ofChange scriptLinesSpec)) scriptLinesCard

/-- THE TIED CARD OF 'bodkinlaw24.ScriptKeeps'. -/
def scriptKeepsCard : Claim7 := { stood := { row := scriptKeepsRow, standIns := [], harness := (true, "a0c7fde857c1478abad8a60d569c22d8a63243d81050937cc87e2d35b6590ca7"), looks := false }, kinds := [], alts := [], laidByText := true, laidKinds := [.data, .data, .data, .data, .pinned], laidTests := true, laidLooks := .later }
def ScriptKeepsCardSaid : Prop := Claim7.holds Tryd.pinned (.plain (OpenSpec.ofChange scriptKeepsSpec)) scriptKeepsCard

/-- THE SECOND FORM's CARD OF 'bodkinlaw24.ScriptReads'. -/
def scriptReadsUptoCard : Claim7 := { stood := { row := scriptReadsUptoRow, standIns := [], harness := (true, "a0c7fde857c1478abad8a60d569c22d8a63243d81050937cc87e2d35b6590ca7"), looks := false }, kinds := [], alts := [], laidByText := true, laidKinds := [.data, .data, .data, .data, .pinned], laidTests := true, laidLooks := .later }
def ScriptReadsUptoCardSaid : Prop := Claim7.holds Tryd.pinned (.plain (OpenSpec.upto scriptReadsSpec)) scriptReadsUptoCard

/-- THE SECOND FORM's CARD OF 'bodkinlaw24.ScriptPrints'. -/
def scriptPrintsUptoCard : Claim7 := { stood := { row := scriptPrintsUptoRow, standIns := [], harness := (true, "a0c7fde857c1478abad8a60d569c22d8a63243d81050937cc87e2d35b6590ca7"), looks := false }, kinds := [], alts := [], laidByText := true, laidKinds := [.data, .data, .data, .data, .pinned], laidTests := true, laidLooks := .later }
def ScriptPrintsUptoCardSaid : Prop := Claim7.holds Tryd.pinned (.plain (OpenSpec.upto scriptPrintsSpec)) scriptPrintsUptoCard

/-- THE SECOND FORM's CARD OF 'bodkinlaw24.ScriptBacks'. -/
def scriptBacksUptoCard : Claim7 := { stood := { row := scriptBacksUptoRow, standIns := [], harness := (true, "a0c7fde857c1478abad8a60d569c22d8a63243d81050937cc87e2d35b6590ca7"), looks := false }, kinds := [], alts := [], laidByText := true, laidKinds := [.data, .data, .data, .data, .pinned], laidTests := true, laidLooks := .later }
def ScriptBacksUptoCardSaid : Prop := Claim7.holds Tryd.pinned (.plain (OpenSpec.upto scriptBacksSpec)) scriptBacksUptoCard

/-- THE SECOND FORM's CARD OF 'bodkinlaw24.ScriptPieces'. -/
def scriptPiecesUptoCard : Claim7 := { stood := { row := scriptPiecesUptoRow, standIns := [], harness := (true, "a0c7fde857c1478abad8a60d569c22d8a63243d81050937cc87e2d35b6590ca7"), looks := false }, kinds := [], alts := [], laidByText := true, laidKinds := [.data, .data, .data, .data, .pinned], laidTests := true, laidLooks := .later }
def ScriptPiecesUptoCardSaid : Prop := Claim7.holds Tryd.pinned (.plain (OpenSpec.upto scriptPiecesSpec)) scriptPiecesUptoCard

/-- THE SECOND FORM's CARD OF 'bodkinlaw24.ScriptLines'. -/
def scriptLinesUptoCard : Claim7 := { stood := { row := scriptLinesUptoRow, standIns := [], harness := (true, "a0c7fde857c1478abad8a60d569c22d8a63243d81050937cc87e2d35b6590ca7"), looks := false }, kinds := [], alts := [], laidByText := true, laidKinds := [.data, .data, .data, .data, .pinned], laidTests := true, laidLooks := .later }
def ScriptLinesUptoCardSaid : Prop := Claim7.holds Tryd.pinned (.plain (OpenSpec.upto scriptLinesSpec)) scriptLinesUptoCard

/-- THE SECOND FORM's CARD OF 'bodkinlaw24.ScriptKeeps'. -/
def scriptKeepsUptoCard : Claim7 := { stood := { row := scriptKeepsUptoRow, standIns := [], harness := (true, "a0c7fde857c1478abad8a60d569c22d8a63243d81050937cc87e2d35b6590ca7"), looks := false }, kinds := [], alts := [], laidByText := true, laidKinds := [.data, .data, .data, .data, .pinned], laidTests := true, laidLooks := .later }
def ScriptKeepsUptoCardSaid : Prop := Claim7.holds Tryd.pinned (.plain (OpenSpec.upto scriptKeepsSpec)) scriptKeepsUptoCard
end Rows
end Go.Proofs.YtibgefampokfkaaDoor
