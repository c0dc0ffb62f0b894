/-
  DERIVED. GIVEN WITH THE SEED: THE CARDS: each row of YtjjilhfebkeoeaaDoorRows.lean that lists a variable, with what it lists TIED to the program's text (the seventh form; the later family's looks); each row that meets fmt, with fmt's text TOLD by the authors' own Lean function (tested against real Go, not proved from fmt's source: count such statements apart). THE CARD IS WHAT COUNTS. Prove the row's statement (the work); the ties are given (YtjjilhfebkeoeaaDoorTie.lean); close each card by the builder's one call (the guide's Derived/Test/ToyasCard.lean, 'card_holds'). Laid BY PROGRAM, IN A SANDBOX (cutbox-door.mjs). By AI agents, Wed Nov 11 2026. No macro, syntax, notation, axiom, sorry.
-/
import Derived.Test.YtjjilhfebkeoeaaDoorRows
import GoSem.ClaimSeven
namespace Go.Proofs.YtjjilhfebkeoeaaDoor
namespace Rows

/-- THE TIED CARD OF 'bodkinlaw19.BindQuoted'. -/
def bindQuotedCard : Claim7 := { stood := { row := bindQuotedRow, standIns := [], harness := (true, "da5e21cf10cb8a1195cae14b4f54b4df0f4c51b78beb837040b25bbe1d533ab3"), looks := false }, kinds := [], alts := [], laidByText := true, laidKinds := [.data, .pinned], laidTests := true, laidLooks := .later }
def BindQuotedCardSaid : Prop := Claim7.holds Tryd.pinned (.plain (OpenSpec.ofChange bindQuotedSpec)) bindQuotedCard

/-- THE TIED CARD OF 'bodkinlaw19.BindTyped'. -/
def bindTypedCard : Claim7 := { stood := { row := bindTypedRow, standIns := [], harness := (true, "da5e21cf10cb8a1195cae14b4f54b4df0f4c51b78beb837040b25bbe1d533ab3"), looks := false }, kinds := [], alts := [], laidByText := true, laidKinds := [.data, .pinned], laidTests := true, laidLooks := .later }
def BindTypedCardSaid : Prop := Claim7.holds Tryd.pinned (.plain (OpenSpec.ofChange bindTypedSpec)) bindTypedCard

/-- THE TIED CARD OF 'bodkinlaw18.KeysPieces'. -/
def keysPiecesCard : Claim7 := { stood := { row := keysPiecesRow, standIns := [], harness := (true, "da5e21cf10cb8a1195cae14b4f54b4df0f4c51b78beb837040b25bbe1d533ab3"), looks := false }, kinds := [], alts := [], laidByText := true, laidKinds := [.data, .data, .data, .data, .pinned], laidTests := true, laidLooks := .later }
def KeysPiecesCardSaid : Prop := Claim7.holds Tryd.pinned (.plain (OpenSpec.ofChange keysPiecesSpec)) keysPiecesCard

/-- THE TIED CARD OF 'bodkinlaw18.KeysSplits'. -/
def keysSplitsCard : Claim7 := { stood := { row := keysSplitsRow, standIns := [], harness := (true, "da5e21cf10cb8a1195cae14b4f54b4df0f4c51b78beb837040b25bbe1d533ab3"), looks := false }, kinds := [], alts := [], laidByText := true, laidKinds := [.data, .data, .data, .data, .pinned], laidTests := true, laidLooks := .later }
def KeysSplitsCardSaid : Prop := Claim7.holds Tryd.pinned (.plain (OpenSpec.ofChange keysSplitsSpec)) keysSplitsCard

/-- THE TIED CARD OF 'bodkinlaw18.KeysBack'. -/
def keysBackCard : Claim7 := { stood := { row := keysBackRow, standIns := [], harness := (true, "da5e21cf10cb8a1195cae14b4f54b4df0f4c51b78beb837040b25bbe1d533ab3"), looks := false }, kinds := [], alts := [], laidByText := true, laidKinds := [.data, .data, .data, .data, .pinned], laidTests := true, laidLooks := .later }
def KeysBackCardSaid : Prop := Claim7.holds Tryd.pinned (.plain (OpenSpec.ofChange keysBackSpec)) keysBackCard

/-- THE TIED CARD OF 'bodkinlaw18.KeysKeeps'. -/
def keysKeepsCard : Claim7 := { stood := { row := keysKeepsRow, standIns := [], harness := (true, "da5e21cf10cb8a1195cae14b4f54b4df0f4c51b78beb837040b25bbe1d533ab3"), looks := false }, kinds := [], alts := [], laidByText := true, laidKinds := [.data, .data, .data, .data, .pinned], laidTests := true, laidLooks := .later }
def KeysKeepsCardSaid : Prop := Claim7.holds Tryd.pinned (.plain (OpenSpec.ofChange keysKeepsSpec)) keysKeepsCard

/-- THE TIED CARD OF 'bodkinlaw18.KeysTexts'. -/
def keysTextsCard : Claim7 := { stood := { row := keysTextsRow, standIns := [], harness := (true, "da5e21cf10cb8a1195cae14b4f54b4df0f4c51b78beb837040b25bbe1d533ab3"), looks := false }, kinds := [], alts := [], laidByText := true, laidKinds := [.data, .data, .data, .data, .pinned], laidTests := true, laidLooks := .later }
def KeysTextsCardSaid : Prop := Claim7.holds Tryd.pinned (.plain (OpenSpec.ofChange keysTextsSpec)) keysTextsCard

/-- THE TIED CARD OF 'bodkinlaw18.KeysEnds'. -/
def keysEndsCard : Claim7 := { stood := { row := keysEndsRow, standIns := [], harness := (true, "da5e21cf10cb8a1195cae14b4f54b4df0f4c51b78beb837040b25bbe1d533ab3"), looks := false }, kinds := [], alts := [], laidByText := true, laidKinds := [.data, .data, .data, .data, .pinned], laidTests := true, laidLooks := .later }
def KeysEndsCardSaid : Prop := Claim7.holds Tryd.pinned (.plain (OpenSpec.ofChange keysEndsSpec)) keysEndsCard

/-- THE SECOND FORM's CARD OF 'bodkinlaw19.BindQuoted'. -/
def bindQuotedUptoCard : Claim7 := { stood := { row := bindQuotedUptoRow, standIns := [], harness := (true, "da5e21cf10cb8a1195cae14b4f54b4df0f4c51b78beb837040b25bbe1d533ab3"), looks := false }, kinds := [], alts := [], laidByText := true, laidKinds := [.data, .pinned], laidTests := true, laidLooks := .later }
def BindQuotedUptoCardSaid : Prop := Claim7.holds Tryd.pinned (.plain (OpenSpec.upto bindQuotedSpec)) bindQuotedUptoCard

/-- THE SECOND FORM's CARD OF 'bodkinlaw19.BindTyped'. -/
def bindTypedUptoCard : Claim7 := { stood := { row := bindTypedUptoRow, standIns := [], harness := (true, "da5e21cf10cb8a1195cae14b4f54b4df0f4c51b78beb837040b25bbe1d533ab3"), looks := false }, kinds := [], alts := [], laidByText := true, laidKinds := [.data, .pinned], laidTests := true, laidLooks := .later }
def BindTypedUptoCardSaid : Prop := Claim7.holds Tryd.pinned (.plain (OpenSpec.upto bindTypedSpec)) bindTypedUptoCard

/-- THE SECOND FORM's CARD OF 'bodkinlaw18.KeysPieces'. -/
def keysPiecesUptoCard : Claim7 := { stood := { row := keysPiecesUptoRow, standIns := [], harness := (true, "da5e21cf10cb8a1195cae14b4f54b4df0f4c51b78beb837040b25bbe1d533ab3"), looks := false }, kinds := [], alts := [], laidByText := true, laidKinds := [.data, .data, .data, .data, .pinned], laidTests := true, laidLooks := .later }
def KeysPiecesUptoCardSaid : Prop := Claim7.holds Tryd.pinned (.plain (OpenSpec.upto keysPiecesSpec)) keysPiecesUptoCard

/-- THE SECOND FORM's CARD OF 'bodkinlaw18.KeysSplits'. -/
def keysSplitsUptoCard : Claim7 := { stood := { row := keysSplitsUptoRow, standIns := [], harness := (true, "da5e21cf10cb8a1195cae14b4f54b4df0f4c51b78beb837040b25bbe1d533ab3"), looks := false }, kinds := [], alts := [], laidByText := true, laidKinds := [.data, .data, .data, .data, .pinned], laidTests := true, laidLooks := .later }
def KeysSplitsUptoCardSaid : Prop := Claim7.holds Tryd.pinned (.plain (OpenSpec.upto keysSplitsSpec)) keysSplitsUptoCard

/-- THE SECOND FORM's CARD OF 'bodkinlaw18.KeysBack'. -/
def keysBackUptoCard : Claim7 := { stood := { row := keysBackUptoRow, standIns := [], harness := (true, "da5e21cf10cb8a1195cae14b4f54b4df0f4c51b78beb837040b25bbe1d533ab3"), looks := false }, kinds := [], alts := [], laidByText := true, laidKinds := [.data, .data, .data, .data, .pinned], laidTests := true, laidLooks := .later }
def KeysBackUptoCardSaid : Prop := Claim7.holds Tryd.pinned (.plain (OpenSpec.upto keysBackSpec)) keysBackUptoCard

/-- THE SECOND FORM's CARD OF 'bodkinlaw18.KeysKeeps'. -/
def keysKeepsUptoCard : Claim7 := { stood := { row := keysKeepsUptoRow, standIns := [], harness := (true, "da5e21cf10cb8a1195cae14b4f54b4df0f4c51b78beb837040b25bbe1d533ab3"), looks := false }, kinds := [], alts := [], laidByText := true, laidKinds := [.data, .data, .data, .data, .pinned], laidTests := true, laidLooks := .later }
def KeysKeepsUptoCardSaid : Prop := Claim7.holds Tryd.pinned (.plain (OpenSpec.upto keysKeepsSpec)) keysKeepsUptoCard

/-- THE SECOND FORM's CARD OF 'bodkinlaw18.KeysTexts'. -/
def keysTextsUptoCard : Claim7 := { stood := { row := keysTextsUptoRow, standIns := [], harness := (true, "da5e21cf10cb8a1195cae14b4f54b4df0f4c51b78beb837040b25bbe1d533ab3"), looks := false }, kinds := [], alts := [], laidByText := true, laidKinds := [.data, .data, .data, .data, .pinned], laidTests := true, laidLooks := .later }
def KeysTextsUptoCardSaid : Prop := Claim7.holds Tryd.pinned (.plain (OpenSpec.upto keysTextsSpec)) keysTextsUptoCard

/-- THE SECOND FORM's CARD OF 'bodkinlaw18.KeysEnds'. -/
def keysEndsUptoCard : Claim7 := { stood := { row := keysEndsUptoRow, standIns := [], harness := (true, "da5e21cf10cb8a1195cae14b4f54b4df0f4c51b78beb837040b25bbe1d533ab3"), looks := false }, kinds := [], alts := [], laidByText := true, laidKinds := [.data, .data, .data, .data, .pinned], laidTests := true, laidLooks := .later }
def KeysEndsUptoCardSaid : Prop := Claim7.holds Tryd.pinned (.plain (OpenSpec.upto keysEndsSpec)) keysEndsUptoCard
end Rows
end Go.Proofs.YtjjilhfebkeoeaaDoor
