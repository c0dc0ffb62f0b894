/-
  DERIVED. GIVEN WITH THE SEED: THE CARDS: each row of YtoodidokjchplaaDoorRows.lean that lists a variable, with what it lists TIED to the program's text (the seventh form; the later family's looks); each row that meets fmt, with fmt's text TOLD by the authors' own Lean function (tested against real Go, not proved from fmt's source: count such statements apart). THE CARD IS WHAT COUNTS. Prove the row's statement (the work); the ties are given (YtoodidokjchplaaDoorTie.lean); close each card by the builder's one call (the guide's Derived/Test/ToyasCard.lean, 'card_holds'). Laid BY PROGRAM, IN A SANDBOX (cutbox-door.mjs). By AI agents, Wed Nov 11 2026. No macro, syntax, notation, axiom, sorry.
-/
import Derived.Test.YtoodidokjchplaaDoorRows
import GoSem.ClaimSeven
namespace Go.Proofs.YtoodidokjchplaaDoor
namespace Rows

/-- THE TIED CARD OF 'bodkinlaw04.MetricJoins'. -/
def metricJoinsCard : Claim7 := { stood := { row := metricJoinsRow, standIns := [], harness := (true, "876aa7ec9f532a2b3dec00fcd2ac465b29a41d293d5e365abff32aefbc443ba3"), looks := false }, kinds := [], alts := [], laidByText := true, laidKinds := [.data, .pinned], laidTests := true, laidLooks := .later }
def MetricJoinsCardSaid : Prop := Claim7.holds Tryd.pinned (.plain (OpenSpec.ofChange metricJoinsSpec)) metricJoinsCard

/-- THE TIED CARD OF 'bodkinlaw04.MetricHomes'. -/
def metricHomesCard : Claim7 := { stood := { row := metricHomesRow, standIns := [], harness := (true, "876aa7ec9f532a2b3dec00fcd2ac465b29a41d293d5e365abff32aefbc443ba3"), looks := false }, kinds := [], alts := [], laidByText := true, laidKinds := [.data, .pinned], laidTests := true, laidLooks := .later }
def MetricHomesCardSaid : Prop := Claim7.holds Tryd.pinned (.plain (OpenSpec.ofChange metricHomesSpec)) metricHomesCard

/-- THE TIED CARD OF 'bodkinlaw04.MetricTells'. -/
def metricTellsCard : Claim7 := { stood := { row := metricTellsRow, standIns := [], harness := (true, "876aa7ec9f532a2b3dec00fcd2ac465b29a41d293d5e365abff32aefbc443ba3"), looks := false }, kinds := [], alts := [], laidByText := true, laidKinds := [.data, .pinned], laidTests := true, laidLooks := .later }
def MetricTellsCardSaid : Prop := Claim7.holds Tryd.pinned (.plain (OpenSpec.ofChange metricTellsSpec)) metricTellsCard

/-- THE TIED CARD OF 'bodkinlaw04.MetricSeams'. -/
def metricSeamsCard : Claim7 := { stood := { row := metricSeamsRow, standIns := [], harness := (true, "876aa7ec9f532a2b3dec00fcd2ac465b29a41d293d5e365abff32aefbc443ba3"), looks := false }, kinds := [], alts := [], laidByText := true, laidKinds := [.data, .pinned], laidTests := true, laidLooks := .later }
def MetricSeamsCardSaid : Prop := Claim7.holds Tryd.pinned (.plain (OpenSpec.ofChange metricSeamsSpec)) metricSeamsCard

/-- THE TIED CARD OF 'bodkinlaw04.MetricMeasures'. -/
def metricMeasuresCard : Claim7 := { stood := { row := metricMeasuresRow, standIns := [], harness := (true, "876aa7ec9f532a2b3dec00fcd2ac465b29a41d293d5e365abff32aefbc443ba3"), looks := false }, kinds := [], alts := [], laidByText := true, laidKinds := [.data, .pinned], laidTests := true, laidLooks := .later }
def MetricMeasuresCardSaid : Prop := Claim7.holds Tryd.pinned (.plain (OpenSpec.ofChange metricMeasuresSpec)) metricMeasuresCard

/-- THE TIED CARD OF 'bodkinlaw04.MetricEnds'. -/
def metricEndsCard : Claim7 := { stood := { row := metricEndsRow, standIns := [], harness := (true, "876aa7ec9f532a2b3dec00fcd2ac465b29a41d293d5e365abff32aefbc443ba3"), looks := false }, kinds := [], alts := [], laidByText := true, laidKinds := [.data, .pinned], laidTests := true, laidLooks := .later }
def MetricEndsCardSaid : Prop := Claim7.holds Tryd.pinned (.plain (OpenSpec.ofChange metricEndsSpec)) metricEndsCard

/-- THE TIED CARD OF 'bodkinlaw04.MetricRanges'. -/
def metricRangesCard : Claim7 := { stood := { row := metricRangesRow, standIns := [], harness := (true, "876aa7ec9f532a2b3dec00fcd2ac465b29a41d293d5e365abff32aefbc443ba3"), looks := false }, kinds := [], alts := [], laidByText := true, laidKinds := [.data, .pinned], laidTests := true, laidLooks := .later }
def MetricRangesCardSaid : Prop := Claim7.holds Tryd.pinned (.plain (OpenSpec.ofChange metricRangesSpec)) metricRangesCard

/-- THE TIED CARD OF 'bodkinlaw04.MetricCuts'. -/
def metricCutsCard : Claim7 := { stood := { row := metricCutsRow, standIns := [], harness := (true, "876aa7ec9f532a2b3dec00fcd2ac465b29a41d293d5e365abff32aefbc443ba3"), looks := false }, kinds := [], alts := [], laidByText := true, laidKinds := [.data, .pinned], laidTests := true, laidLooks := .later }
def MetricCutsCardSaid : Prop := Claim7.holds Tryd.pinned (.plain (OpenSpec.ofChange metricCutsSpec)) metricCutsCard

/-- THE TIED CARD OF 'bodkinlaw21.PaintFits'. -/
def paintFitsCard : Claim7 := { stood := { row := paintFitsRow, standIns := [], harness := (true, "876aa7ec9f532a2b3dec00fcd2ac465b29a41d293d5e365abff32aefbc443ba3"), looks := false }, kinds := [], alts := [], laidByText := true, laidKinds := [.data, .data, .data, .data, .pinned], laidTests := true, laidLooks := .later }
def PaintFitsCardSaid : Prop := Claim7.holds Tryd.pinned (.plain (OpenSpec.ofChange paintFitsSpec)) paintFitsCard

/-- THE TIED CARD OF 'bodkinlaw21.PaintPaints'. -/
def paintPaintsCard : Claim7 := { stood := { row := paintPaintsRow, standIns := [], harness := (true, "876aa7ec9f532a2b3dec00fcd2ac465b29a41d293d5e365abff32aefbc443ba3"), looks := false }, kinds := [], alts := [], laidByText := true, laidKinds := [.data, .data, .data, .data, .pinned], laidTests := true, laidLooks := .later }
def PaintPaintsCardSaid : Prop := Claim7.holds Tryd.pinned (.plain (OpenSpec.ofChange paintPaintsSpec)) paintPaintsCard

/-- THE TIED CARD OF 'bodkinlaw21.PaintStill'. -/
def paintStillCard : Claim7 := { stood := { row := paintStillRow, standIns := [], harness := (true, "876aa7ec9f532a2b3dec00fcd2ac465b29a41d293d5e365abff32aefbc443ba3"), looks := false }, kinds := [], alts := [], laidByText := true, laidKinds := [.data, .data, .data, .data, .pinned], laidTests := true, laidLooks := .later }
def PaintStillCardSaid : Prop := Claim7.holds Tryd.pinned (.plain (OpenSpec.ofChange paintStillSpec)) paintStillCard

/-- THE TIED CARD OF 'bodkinlaw21.PaintEnds'. -/
def paintEndsCard : Claim7 := { stood := { row := paintEndsRow, standIns := [], harness := (true, "876aa7ec9f532a2b3dec00fcd2ac465b29a41d293d5e365abff32aefbc443ba3"), looks := false }, kinds := [], alts := [], laidByText := true, laidKinds := [.data, .data, .data, .data, .pinned], laidTests := true, laidLooks := .later }
def PaintEndsCardSaid : Prop := Claim7.holds Tryd.pinned (.plain (OpenSpec.ofChange paintEndsSpec)) paintEndsCard

/-- THE SECOND FORM's CARD OF 'bodkinlaw04.MetricJoins'. -/
def metricJoinsUptoCard : Claim7 := { stood := { row := metricJoinsUptoRow, standIns := [], harness := (true, "876aa7ec9f532a2b3dec00fcd2ac465b29a41d293d5e365abff32aefbc443ba3"), looks := false }, kinds := [], alts := [], laidByText := true, laidKinds := [.data, .pinned], laidTests := true, laidLooks := .later }
def MetricJoinsUptoCardSaid : Prop := Claim7.holds Tryd.pinned (.plain (OpenSpec.upto metricJoinsSpec)) metricJoinsUptoCard

/-- THE SECOND FORM's CARD OF 'bodkinlaw04.MetricHomes'. -/
def metricHomesUptoCard : Claim7 := { stood := { row := metricHomesUptoRow, standIns := [], harness := (true, "876aa7ec9f532a2b3dec00fcd2ac465b29a41d293d5e365abff32aefbc443ba3"), looks := false }, kinds := [], alts := [], laidByText := true, laidKinds := [.data, .pinned], laidTests := true, laidLooks := .later }
def MetricHomesUptoCardSaid : Prop := Claim7.holds Tryd.pinned (.plain (OpenSpec.upto metricHomesSpec)) metricHomesUptoCard

/-- THE SECOND FORM's CARD OF 'bodkinlaw04.MetricTells'. -/
def metricTellsUptoCard : Claim7 := { stood := { row := metricTellsUptoRow, standIns := [], harness := (true, "876aa7ec9f532a2b3dec00fcd2ac465b29a41d293d5e365abff32aefbc443ba3"), looks := false }, kinds := [], alts := [], laidByText := true, laidKinds := [.data, .pinned], laidTests := true, laidLooks := .later }
def MetricTellsUptoCardSaid : Prop := Claim7.holds Tryd.pinned (.plain (OpenSpec.upto metricTellsSpec)) metricTellsUptoCard

/-- THE SECOND FORM's CARD OF 'bodkinlaw04.MetricSeams'. -/
def metricSeamsUptoCard : Claim7 := { stood := { row := metricSeamsUptoRow, standIns := [], harness := (true, "876aa7ec9f532a2b3dec00fcd2ac465b29a41d293d5e365abff32aefbc443ba3"), looks := false }, kinds := [], alts := [], laidByText := true, laidKinds := [.data, .pinned], laidTests := true, laidLooks := .later }
def MetricSeamsUptoCardSaid : Prop := Claim7.holds Tryd.pinned (.plain (OpenSpec.upto metricSeamsSpec)) metricSeamsUptoCard

/-- THE SECOND FORM's CARD OF 'bodkinlaw04.MetricMeasures'. -/
def metricMeasuresUptoCard : Claim7 := { stood := { row := metricMeasuresUptoRow, standIns := [], harness := (true, "876aa7ec9f532a2b3dec00fcd2ac465b29a41d293d5e365abff32aefbc443ba3"), looks := false }, kinds := [], alts := [], laidByText := true, laidKinds := [.data, .pinned], laidTests := true, laidLooks := .later }
def MetricMeasuresUptoCardSaid : Prop := Claim7.holds Tryd.pinned (.plain (OpenSpec.upto metricMeasuresSpec)) metricMeasuresUptoCard

/-- THE SECOND FORM's CARD OF 'bodkinlaw04.MetricEnds'. -/
def metricEndsUptoCard : Claim7 := { stood := { row := metricEndsUptoRow, standIns := [], harness := (true, "876aa7ec9f532a2b3dec00fcd2ac465b29a41d293d5e365abff32aefbc443ba3"), looks := false }, kinds := [], alts := [], laidByText := true, laidKinds := [.data, .pinned], laidTests := true, laidLooks := .later }
def MetricEndsUptoCardSaid : Prop := Claim7.holds Tryd.pinned (.plain (OpenSpec.upto metricEndsSpec)) metricEndsUptoCard

/-- THE SECOND FORM's CARD OF 'bodkinlaw04.MetricRanges'. -/
def metricRangesUptoCard : Claim7 := { stood := { row := metricRangesUptoRow, standIns := [], harness := (true, "876aa7ec9f532a2b3dec00fcd2ac465b29a41d293d5e365abff32aefbc443ba3"), looks := false }, kinds := [], alts := [], laidByText := true, laidKinds := [.data, .pinned], laidTests := true, laidLooks := .later }
def MetricRangesUptoCardSaid : Prop := Claim7.holds Tryd.pinned (.plain (OpenSpec.upto metricRangesSpec)) metricRangesUptoCard

/-- THE SECOND FORM's CARD OF 'bodkinlaw04.MetricCuts'. -/
def metricCutsUptoCard : Claim7 := { stood := { row := metricCutsUptoRow, standIns := [], harness := (true, "876aa7ec9f532a2b3dec00fcd2ac465b29a41d293d5e365abff32aefbc443ba3"), looks := false }, kinds := [], alts := [], laidByText := true, laidKinds := [.data, .pinned], laidTests := true, laidLooks := .later }
def MetricCutsUptoCardSaid : Prop := Claim7.holds Tryd.pinned (.plain (OpenSpec.upto metricCutsSpec)) metricCutsUptoCard

/-- THE SECOND FORM's CARD OF 'bodkinlaw21.PaintFits'. -/
def paintFitsUptoCard : Claim7 := { stood := { row := paintFitsUptoRow, standIns := [], harness := (true, "876aa7ec9f532a2b3dec00fcd2ac465b29a41d293d5e365abff32aefbc443ba3"), looks := false }, kinds := [], alts := [], laidByText := true, laidKinds := [.data, .data, .data, .data, .pinned], laidTests := true, laidLooks := .later }
def PaintFitsUptoCardSaid : Prop := Claim7.holds Tryd.pinned (.plain (OpenSpec.upto paintFitsSpec)) paintFitsUptoCard

/-- THE SECOND FORM's CARD OF 'bodkinlaw21.PaintPaints'. -/
def paintPaintsUptoCard : Claim7 := { stood := { row := paintPaintsUptoRow, standIns := [], harness := (true, "876aa7ec9f532a2b3dec00fcd2ac465b29a41d293d5e365abff32aefbc443ba3"), looks := false }, kinds := [], alts := [], laidByText := true, laidKinds := [.data, .data, .data, .data, .pinned], laidTests := true, laidLooks := .later }
def PaintPaintsUptoCardSaid : Prop := Claim7.holds Tryd.pinned (.plain (OpenSpec.upto paintPaintsSpec)) paintPaintsUptoCard

/-- THE SECOND FORM's CARD OF 'bodkinlaw21.PaintStill'. -/
def paintStillUptoCard : Claim7 := { stood := { row := paintStillUptoRow, standIns := [], harness := (true, "876aa7ec9f532a2b3dec00fcd2ac465b29a41d293d5e365abff32aefbc443ba3"), looks := false }, kinds := [], alts := [], laidByText := true, laidKinds := [.data, .data, .data, .data, .pinned], laidTests := true, laidLooks := .later }
def PaintStillUptoCardSaid : Prop := Claim7.holds Tryd.pinned (.plain (OpenSpec.upto paintStillSpec)) paintStillUptoCard

/-- THE SECOND FORM's CARD OF 'bodkinlaw21.PaintEnds'. -/
def paintEndsUptoCard : Claim7 := { stood := { row := paintEndsUptoRow, standIns := [], harness := (true, "876aa7ec9f532a2b3dec00fcd2ac465b29a41d293d5e365abff32aefbc443ba3"), looks := false }, kinds := [], alts := [], laidByText := true, laidKinds := [.data, .data, .data, .data, .pinned], laidTests := true, laidLooks := .later }
def PaintEndsUptoCardSaid : Prop := Claim7.holds Tryd.pinned (.plain (OpenSpec.upto paintEndsSpec)) paintEndsUptoCard
end Rows
end Go.Proofs.YtoodidokjchplaaDoor
