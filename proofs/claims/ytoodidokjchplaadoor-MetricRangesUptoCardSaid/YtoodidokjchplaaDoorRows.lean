/-
  NARROWER THAN 'FOR EVERY INPUT', by the rows' own cells (each row's printed sentence says how): MetricJoins: laid · MetricHomes: laid · MetricTells: laid · MetricSeams: laid · MetricMeasures: laid · MetricEnds: laid · MetricRanges: laid · MetricCuts: laid · PaintFits: laid · PaintPaints: laid · PaintStill: laid · PaintEnds: laid.
  DERIVED. THE GIVEN ROWS OF THIS SEAT. 12 by the template 'for every input the law returns true; each argument reads behind the call as it read before'; 0 by the template 'total and deterministic' (their statements: YtoodidokjchplaaDoorTotals.lean).
  GIVEN WITH THE SEED: the statements are not yours to turn. If you find one false, say at which input.
  Laid BY PROGRAM, IN A SANDBOX (cutbox-rows.mjs): the forced cells as the released guide's own fill.sh prints them over the translation 84392fd541219169… (all of the seat's roots in one cut). By AI agents, Wed Nov 11 2026. No macro, syntax, notation, axiom, sorry.
-/
import Derived.Test.YtoodidokjchplaaDoorChecked
import GoSem.PinnedTables
import GoSem.Claim
import GoSem.ClaimJoined
import GoSem.ClaimMapViews
import Derived.JoinedTies
import Derived.KernelRfl
namespace Go.Proofs.YtoodidokjchplaaDoor
/- THE CELL 'sum', in the pinned program and in every row, IS THE sha256 OF THE DUMP (.gsa) THAT YtoodidokjchplaaDoorProg.lean LOADS. Nothing in Lean hashes anything: it is a label: what it is worth is what the hold of that sum in a sandbox is worth. -/
noncomputable def Tryd.pinned : Pinned := { name := "ytoodidokjchplaadoor", sum := "84392fd5412191696014761859e265bd1f0714075d5f9bfb57cd263158ba3a53", checked := Tryd.checked }
namespace Rows
def none {H : Type} : Left H := { results := [], args := [] }

/- WHAT THE LISTED PACKAGE-LEVEL VARIABLES READ AS WHEN THE CALL BEGINS. Each datum BY PROGRAM (the guide's laid-datum.mjs) off the statement by which the dump's own 'gosem.cut.vars' lays the variable. In a bare row this is a premise. The card (YtoodidokjchplaaDoorCards.lean) ties it to the program's text. -/
def laid_unicode_utf8_acceptRanges {H : Type} : DataW H := .agg [.agg [.lit (.int .u8 128), .lit (.int .u8 191)], .agg [.lit (.int .u8 160), .lit (.int .u8 191)], .agg [.lit (.int .u8 128), .lit (.int .u8 159)], .agg [.lit (.int .u8 144), .lit (.int .u8 191)], .agg [.lit (.int .u8 128), .lit (.int .u8 143)], .agg [.lit (.int .u8 0), .lit (.int .u8 0)], .agg [.lit (.int .u8 0), .lit (.int .u8 0)], .agg [.lit (.int .u8 0), .lit (.int .u8 0)], .agg [.lit (.int .u8 0), .lit (.int .u8 0)], .agg [.lit (.int .u8 0), .lit (.int .u8 0)], .agg [.lit (.int .u8 0), .lit (.int .u8 0)], .agg [.lit (.int .u8 0), .lit (.int .u8 0)], .agg [.lit (.int .u8 0), .lit (.int .u8 0)], .agg [.lit (.int .u8 0), .lit (.int .u8 0)], .agg [.lit (.int .u8 0), .lit (.int .u8 0)], .agg [.lit (.int .u8 0), .lit (.int .u8 0)]]
/-- One of Go's own tables, pinned by name: the form's constant. -/
def laid_unicode_utf8_first : DataW Unit := Go.Pinned.utf8First
def laid_math_bits_deBruijn32tab {H : Type} : DataW H := .agg [.lit (.int .u8 0), .lit (.int .u8 1), .lit (.int .u8 28), .lit (.int .u8 2), .lit (.int .u8 29), .lit (.int .u8 14), .lit (.int .u8 24), .lit (.int .u8 3), .lit (.int .u8 30), .lit (.int .u8 22), .lit (.int .u8 20), .lit (.int .u8 15), .lit (.int .u8 25), .lit (.int .u8 17), .lit (.int .u8 4), .lit (.int .u8 8), .lit (.int .u8 31), .lit (.int .u8 27), .lit (.int .u8 13), .lit (.int .u8 23), .lit (.int .u8 21), .lit (.int .u8 19), .lit (.int .u8 16), .lit (.int .u8 7), .lit (.int .u8 26), .lit (.int .u8 12), .lit (.int .u8 18), .lit (.int .u8 6), .lit (.int .u8 11), .lit (.int .u8 5), .lit (.int .u8 10), .lit (.int .u8 9)]
def laid_math_bits_deBruijn64tab {H : Type} : DataW H := .agg [.lit (.int .u8 0), .lit (.int .u8 1), .lit (.int .u8 56), .lit (.int .u8 2), .lit (.int .u8 57), .lit (.int .u8 49), .lit (.int .u8 28), .lit (.int .u8 3), .lit (.int .u8 61), .lit (.int .u8 58), .lit (.int .u8 42), .lit (.int .u8 50), .lit (.int .u8 38), .lit (.int .u8 29), .lit (.int .u8 17), .lit (.int .u8 4), .lit (.int .u8 62), .lit (.int .u8 47), .lit (.int .u8 59), .lit (.int .u8 36), .lit (.int .u8 45), .lit (.int .u8 43), .lit (.int .u8 51), .lit (.int .u8 22), .lit (.int .u8 53), .lit (.int .u8 39), .lit (.int .u8 33), .lit (.int .u8 30), .lit (.int .u8 24), .lit (.int .u8 18), .lit (.int .u8 12), .lit (.int .u8 5), .lit (.int .u8 63), .lit (.int .u8 55), .lit (.int .u8 48), .lit (.int .u8 27), .lit (.int .u8 60), .lit (.int .u8 41), .lit (.int .u8 37), .lit (.int .u8 16), .lit (.int .u8 46), .lit (.int .u8 35), .lit (.int .u8 44), .lit (.int .u8 21), .lit (.int .u8 52), .lit (.int .u8 32), .lit (.int .u8 23), .lit (.int .u8 11), .lit (.int .u8 54), .lit (.int .u8 26), .lit (.int .u8 40), .lit (.int .u8 15), .lit (.int .u8 34), .lit (.int .u8 20), .lit (.int .u8 31), .lit (.int .u8 10), .lit (.int .u8 25), .lit (.int .u8 14), .lit (.int .u8 19), .lit (.int .u8 9), .lit (.int .u8 13), .lit (.int .u8 8), .lit (.int .u8 7), .lit (.int .u8 6)]
def laid_internal_strconv_uint64pow10 {H : Type} : DataW H := .agg [.lit (.int .u64 1), .lit (.int .u64 10), .lit (.int .u64 100), .lit (.int .u64 1000), .lit (.int .u64 10000), .lit (.int .u64 100000), .lit (.int .u64 1000000), .lit (.int .u64 10000000), .lit (.int .u64 100000000), .lit (.int .u64 1000000000), .lit (.int .u64 10000000000), .lit (.int .u64 100000000000), .lit (.int .u64 1000000000000), .lit (.int .u64 10000000000000), .lit (.int .u64 100000000000000), .lit (.int .u64 1000000000000000), .lit (.int .u64 10000000000000000), .lit (.int .u64 100000000000000000), .lit (.int .u64 1000000000000000000), .lit (.int .u64 10000000000000000000)]

/-- 'bodkinlaw04.MetricJoins': WHATEVER THE INPUT: true; the input reads as it did. -/
def metricJoinsSpec : ChangeSpec := { name := "metricJoins", fn := fun _ => fun
  | [d] => { results := [.lit (.bool true)], args := [d] }
  | _ => none }
def metricJoinsRow : OpenClaim := { program := "ytoodidokjchplaadoor", sum := "84392fd5412191696014761859e265bd1f0714075d5f9bfb57cd263158ba3a53", func := "bodkin/bodkinlaw04.MetricJoins", spec := "metricJoins", inPlace := ["internal/bytealg.CountString", "internal/bytealg.IndexByteString", "internal/bytealg.IndexString"], unfollowed := true, recurses := true, named := ["unicode/utf8.first", "unicode/utf8.acceptRanges", "internal/bytealg.MaxLen"], apart := false, laid := [("unicode/utf8.acceptRanges", laid_unicode_utf8_acceptRanges), ("unicode/utf8.first", laid_unicode_utf8_first)] }
def MetricJoinsSaid : Prop := metricJoinsRow.holds Tryd.pinned (OpenSpec.ofChange metricJoinsSpec)

/-- ITS FALSE NEIGHBOUR: 'it returns false'. Refute it at one input. -/
def metricJoinsWrong : ChangeSpec := { name := "metricJoins", fn := fun _ => fun
  | [d] => { results := [.lit (.bool false)], args := [d] }
  | _ => none }
def MetricJoinsWrongFalsely : Prop := metricJoinsRow.holds Tryd.pinned (OpenSpec.ofChange metricJoinsWrong)

/-- 'bodkinlaw04.MetricHomes': WHATEVER THE INPUT: true; the input reads as it did. -/
def metricHomesSpec : ChangeSpec := { name := "metricHomes", fn := fun _ => fun
  | [d1, d2, d3] => { results := [.lit (.bool true)], args := [d1, d2, d3] }
  | _ => none }
def metricHomesRow : OpenClaim := { program := "ytoodidokjchplaadoor", sum := "84392fd5412191696014761859e265bd1f0714075d5f9bfb57cd263158ba3a53", func := "bodkin/bodkinlaw04.MetricHomes", spec := "metricHomes", inPlace := ["internal/bytealg.CountString", "internal/bytealg.IndexByteString", "internal/bytealg.IndexString"], unfollowed := true, recurses := true, named := ["unicode/utf8.first", "unicode/utf8.acceptRanges", "internal/bytealg.MaxLen"], apart := false, laid := [("unicode/utf8.acceptRanges", laid_unicode_utf8_acceptRanges), ("unicode/utf8.first", laid_unicode_utf8_first)] }
def MetricHomesSaid : Prop := metricHomesRow.holds Tryd.pinned (OpenSpec.ofChange metricHomesSpec)

/-- ITS FALSE NEIGHBOUR: 'it returns false'. Refute it at one input. -/
def metricHomesWrong : ChangeSpec := { name := "metricHomes", fn := fun _ => fun
  | [d1, d2, d3] => { results := [.lit (.bool false)], args := [d1, d2, d3] }
  | _ => none }
def MetricHomesWrongFalsely : Prop := metricHomesRow.holds Tryd.pinned (OpenSpec.ofChange metricHomesWrong)

/-- 'bodkinlaw04.MetricTells': WHATEVER THE INPUT: true; the input reads as it did. -/
def metricTellsSpec : ChangeSpec := { name := "metricTells", fn := fun _ => fun
  | [d] => { results := [.lit (.bool true)], args := [d] }
  | _ => none }
def metricTellsRow : OpenClaim := { program := "ytoodidokjchplaadoor", sum := "84392fd5412191696014761859e265bd1f0714075d5f9bfb57cd263158ba3a53", func := "bodkin/bodkinlaw04.MetricTells", spec := "metricTells", inPlace := ["internal/bytealg.CountString", "internal/bytealg.IndexByteString", "internal/bytealg.IndexString"], unfollowed := true, recurses := true, named := ["unicode/utf8.first", "unicode/utf8.acceptRanges", "internal/bytealg.MaxLen"], apart := false, laid := [("unicode/utf8.acceptRanges", laid_unicode_utf8_acceptRanges), ("unicode/utf8.first", laid_unicode_utf8_first)] }
def MetricTellsSaid : Prop := metricTellsRow.holds Tryd.pinned (OpenSpec.ofChange metricTellsSpec)

/-- ITS FALSE NEIGHBOUR: 'it returns false'. Refute it at one input. -/
def metricTellsWrong : ChangeSpec := { name := "metricTells", fn := fun _ => fun
  | [d] => { results := [.lit (.bool false)], args := [d] }
  | _ => none }
def MetricTellsWrongFalsely : Prop := metricTellsRow.holds Tryd.pinned (OpenSpec.ofChange metricTellsWrong)

/-- 'bodkinlaw04.MetricSeams': WHATEVER THE INPUT: true; the input reads as it did. -/
def metricSeamsSpec : ChangeSpec := { name := "metricSeams", fn := fun _ => fun
  | [d1, d2, d3, d4] => { results := [.lit (.bool true)], args := [d1, d2, d3, d4] }
  | _ => none }
def metricSeamsRow : OpenClaim := { program := "ytoodidokjchplaadoor", sum := "84392fd5412191696014761859e265bd1f0714075d5f9bfb57cd263158ba3a53", func := "bodkin/bodkinlaw04.MetricSeams", spec := "metricSeams", inPlace := ["internal/bytealg.CountString", "internal/bytealg.IndexByteString", "internal/bytealg.IndexString"], unfollowed := true, recurses := true, named := ["unicode/utf8.first", "unicode/utf8.acceptRanges", "internal/bytealg.MaxLen"], apart := false, laid := [("unicode/utf8.acceptRanges", laid_unicode_utf8_acceptRanges), ("unicode/utf8.first", laid_unicode_utf8_first)] }
def MetricSeamsSaid : Prop := metricSeamsRow.holds Tryd.pinned (OpenSpec.ofChange metricSeamsSpec)

/-- ITS FALSE NEIGHBOUR: 'it returns false'. Refute it at one input. -/
def metricSeamsWrong : ChangeSpec := { name := "metricSeams", fn := fun _ => fun
  | [d1, d2, d3, d4] => { results := [.lit (.bool false)], args := [d1, d2, d3, d4] }
  | _ => none }
def MetricSeamsWrongFalsely : Prop := metricSeamsRow.holds Tryd.pinned (OpenSpec.ofChange metricSeamsWrong)

/-- 'bodkinlaw04.MetricMeasures': WHATEVER THE INPUT: true; the input reads as it did. -/
def metricMeasuresSpec : ChangeSpec := { name := "metricMeasures", fn := fun _ => fun
  | [d] => { results := [.lit (.bool true)], args := [d] }
  | _ => none }
def metricMeasuresRow : OpenClaim := { program := "ytoodidokjchplaadoor", sum := "84392fd5412191696014761859e265bd1f0714075d5f9bfb57cd263158ba3a53", func := "bodkin/bodkinlaw04.MetricMeasures", spec := "metricMeasures", inPlace := ["internal/bytealg.CountString", "internal/bytealg.IndexByteString", "internal/bytealg.IndexString"], unfollowed := true, recurses := true, named := ["unicode/utf8.first", "unicode/utf8.acceptRanges", "internal/bytealg.MaxLen"], apart := false, laid := [("unicode/utf8.acceptRanges", laid_unicode_utf8_acceptRanges), ("unicode/utf8.first", laid_unicode_utf8_first)] }
def MetricMeasuresSaid : Prop := metricMeasuresRow.holds Tryd.pinned (OpenSpec.ofChange metricMeasuresSpec)

/-- ITS FALSE NEIGHBOUR: 'it returns false'. Refute it at one input. -/
def metricMeasuresWrong : ChangeSpec := { name := "metricMeasures", fn := fun _ => fun
  | [d] => { results := [.lit (.bool false)], args := [d] }
  | _ => none }
def MetricMeasuresWrongFalsely : Prop := metricMeasuresRow.holds Tryd.pinned (OpenSpec.ofChange metricMeasuresWrong)

/-- 'bodkinlaw04.MetricEnds': WHATEVER THE INPUT: true; the input reads as it did. -/
def metricEndsSpec : ChangeSpec := { name := "metricEnds", fn := fun _ => fun
  | [d1, d2] => { results := [.lit (.bool true)], args := [d1, d2] }
  | _ => none }
def metricEndsRow : OpenClaim := { program := "ytoodidokjchplaadoor", sum := "84392fd5412191696014761859e265bd1f0714075d5f9bfb57cd263158ba3a53", func := "bodkin/bodkinlaw04.MetricEnds", spec := "metricEnds", inPlace := ["internal/bytealg.CountString", "internal/bytealg.IndexByteString", "internal/bytealg.IndexString"], unfollowed := true, recurses := true, named := ["unicode/utf8.first", "unicode/utf8.acceptRanges", "internal/bytealg.MaxLen"], apart := false, laid := [("unicode/utf8.acceptRanges", laid_unicode_utf8_acceptRanges), ("unicode/utf8.first", laid_unicode_utf8_first)] }
def MetricEndsSaid : Prop := metricEndsRow.holds Tryd.pinned (OpenSpec.ofChange metricEndsSpec)

/-- ITS FALSE NEIGHBOUR: 'it returns false'. Refute it at one input. -/
def metricEndsWrong : ChangeSpec := { name := "metricEnds", fn := fun _ => fun
  | [d1, d2] => { results := [.lit (.bool false)], args := [d1, d2] }
  | _ => none }
def MetricEndsWrongFalsely : Prop := metricEndsRow.holds Tryd.pinned (OpenSpec.ofChange metricEndsWrong)

/-- 'bodkinlaw04.MetricRanges': WHATEVER THE INPUT: true; the input reads as it did. -/
def metricRangesSpec : ChangeSpec := { name := "metricRanges", fn := fun _ => fun
  | [d1, d2, d3] => { results := [.lit (.bool true)], args := [d1, d2, d3] }
  | _ => none }
def metricRangesRow : OpenClaim := { program := "ytoodidokjchplaadoor", sum := "84392fd5412191696014761859e265bd1f0714075d5f9bfb57cd263158ba3a53", func := "bodkin/bodkinlaw04.MetricRanges", spec := "metricRanges", inPlace := ["internal/bytealg.CountString", "internal/bytealg.IndexByteString", "internal/bytealg.IndexString"], unfollowed := true, recurses := true, named := ["unicode/utf8.first", "unicode/utf8.acceptRanges", "internal/bytealg.MaxLen"], apart := false, laid := [("unicode/utf8.acceptRanges", laid_unicode_utf8_acceptRanges), ("unicode/utf8.first", laid_unicode_utf8_first)] }
def MetricRangesSaid : Prop := metricRangesRow.holds Tryd.pinned (OpenSpec.ofChange metricRangesSpec)

/-- ITS FALSE NEIGHBOUR: 'it returns false'. Refute it at one input. -/
def metricRangesWrong : ChangeSpec := { name := "metricRanges", fn := fun _ => fun
  | [d1, d2, d3] => { results := [.lit (.bool false)], args := [d1, d2, d3] }
  | _ => none }
def MetricRangesWrongFalsely : Prop := metricRangesRow.holds Tryd.pinned (OpenSpec.ofChange metricRangesWrong)

/-- 'bodkinlaw04.MetricCuts': WHATEVER THE INPUT: true; the input reads as it did. -/
def metricCutsSpec : ChangeSpec := { name := "metricCuts", fn := fun _ => fun
  | [d1, d2] => { results := [.lit (.bool true)], args := [d1, d2] }
  | _ => none }
def metricCutsRow : OpenClaim := { program := "ytoodidokjchplaadoor", sum := "84392fd5412191696014761859e265bd1f0714075d5f9bfb57cd263158ba3a53", func := "bodkin/bodkinlaw04.MetricCuts", spec := "metricCuts", inPlace := ["internal/bytealg.CountString", "internal/bytealg.IndexByteString", "internal/bytealg.IndexString"], unfollowed := true, recurses := true, named := ["unicode/utf8.first", "unicode/utf8.acceptRanges", "internal/bytealg.MaxLen"], apart := false, laid := [("unicode/utf8.acceptRanges", laid_unicode_utf8_acceptRanges), ("unicode/utf8.first", laid_unicode_utf8_first)] }
def MetricCutsSaid : Prop := metricCutsRow.holds Tryd.pinned (OpenSpec.ofChange metricCutsSpec)

/-- ITS FALSE NEIGHBOUR: 'it returns false'. Refute it at one input. -/
def metricCutsWrong : ChangeSpec := { name := "metricCuts", fn := fun _ => fun
  | [d1, d2] => { results := [.lit (.bool false)], args := [d1, d2] }
  | _ => none }
def MetricCutsWrongFalsely : Prop := metricCutsRow.holds Tryd.pinned (OpenSpec.ofChange metricCutsWrong)

/-- 'bodkinlaw21.PaintFits': WHATEVER THE INPUT: true; the input reads as it did. -/
def paintFitsSpec : ChangeSpec := { name := "paintFits", fn := fun _ => fun
  | [d1, d2] => { results := [.lit (.bool true)], args := [d1, d2] }
  | _ => none }
def paintFitsRow : OpenClaim := { program := "ytoodidokjchplaadoor", sum := "84392fd5412191696014761859e265bd1f0714075d5f9bfb57cd263158ba3a53", func := "bodkin/bodkinlaw21.PaintFits", spec := "paintFits", inPlace := ["internal/abi.NoEscape"], unfollowed := true, recurses := true, named := ["unicode/utf8.first", "unicode/utf8.acceptRanges", "internal/strconv.uint64pow10", "math/bits.deBruijn32tab", "math/bits.deBruijn64tab"], apart := false, laid := [("math/bits.deBruijn32tab", laid_math_bits_deBruijn32tab), ("math/bits.deBruijn64tab", laid_math_bits_deBruijn64tab), ("internal/strconv.uint64pow10", laid_internal_strconv_uint64pow10), ("unicode/utf8.acceptRanges", laid_unicode_utf8_acceptRanges), ("unicode/utf8.first", laid_unicode_utf8_first)] }
def PaintFitsSaid : Prop := paintFitsRow.holds Tryd.pinned (OpenSpec.ofChange paintFitsSpec)

/-- ITS FALSE NEIGHBOUR: 'it returns false'. Refute it at one input. -/
def paintFitsWrong : ChangeSpec := { name := "paintFits", fn := fun _ => fun
  | [d1, d2] => { results := [.lit (.bool false)], args := [d1, d2] }
  | _ => none }
def PaintFitsWrongFalsely : Prop := paintFitsRow.holds Tryd.pinned (OpenSpec.ofChange paintFitsWrong)

/-- 'bodkinlaw21.PaintPaints': WHATEVER THE INPUT: true; the input reads as it did. -/
def paintPaintsSpec : ChangeSpec := { name := "paintPaints", fn := fun _ => fun
  | [d1, d2] => { results := [.lit (.bool true)], args := [d1, d2] }
  | _ => none }
def paintPaintsRow : OpenClaim := { program := "ytoodidokjchplaadoor", sum := "84392fd5412191696014761859e265bd1f0714075d5f9bfb57cd263158ba3a53", func := "bodkin/bodkinlaw21.PaintPaints", spec := "paintPaints", inPlace := ["internal/abi.NoEscape"], unfollowed := true, recurses := true, named := ["unicode/utf8.first", "unicode/utf8.acceptRanges", "internal/strconv.uint64pow10", "math/bits.deBruijn32tab", "math/bits.deBruijn64tab"], apart := false, laid := [("math/bits.deBruijn32tab", laid_math_bits_deBruijn32tab), ("math/bits.deBruijn64tab", laid_math_bits_deBruijn64tab), ("internal/strconv.uint64pow10", laid_internal_strconv_uint64pow10), ("unicode/utf8.acceptRanges", laid_unicode_utf8_acceptRanges), ("unicode/utf8.first", laid_unicode_utf8_first)] }
def PaintPaintsSaid : Prop := paintPaintsRow.holds Tryd.pinned (OpenSpec.ofChange paintPaintsSpec)

/-- ITS FALSE NEIGHBOUR: 'it returns false'. Refute it at one input. -/
def paintPaintsWrong : ChangeSpec := { name := "paintPaints", fn := fun _ => fun
  | [d1, d2] => { results := [.lit (.bool false)], args := [d1, d2] }
  | _ => none }
def PaintPaintsWrongFalsely : Prop := paintPaintsRow.holds Tryd.pinned (OpenSpec.ofChange paintPaintsWrong)

/-- 'bodkinlaw21.PaintStill': WHATEVER THE INPUT: true; the input reads as it did. -/
def paintStillSpec : ChangeSpec := { name := "paintStill", fn := fun _ => fun
  | [d1, d2] => { results := [.lit (.bool true)], args := [d1, d2] }
  | _ => none }
def paintStillRow : OpenClaim := { program := "ytoodidokjchplaadoor", sum := "84392fd5412191696014761859e265bd1f0714075d5f9bfb57cd263158ba3a53", func := "bodkin/bodkinlaw21.PaintStill", spec := "paintStill", inPlace := ["internal/abi.NoEscape"], unfollowed := true, recurses := true, named := ["unicode/utf8.first", "unicode/utf8.acceptRanges", "internal/strconv.uint64pow10", "math/bits.deBruijn32tab", "math/bits.deBruijn64tab"], apart := false, laid := [("math/bits.deBruijn32tab", laid_math_bits_deBruijn32tab), ("math/bits.deBruijn64tab", laid_math_bits_deBruijn64tab), ("internal/strconv.uint64pow10", laid_internal_strconv_uint64pow10), ("unicode/utf8.acceptRanges", laid_unicode_utf8_acceptRanges), ("unicode/utf8.first", laid_unicode_utf8_first)] }
def PaintStillSaid : Prop := paintStillRow.holds Tryd.pinned (OpenSpec.ofChange paintStillSpec)

/-- ITS FALSE NEIGHBOUR: 'it returns false'. Refute it at one input. -/
def paintStillWrong : ChangeSpec := { name := "paintStill", fn := fun _ => fun
  | [d1, d2] => { results := [.lit (.bool false)], args := [d1, d2] }
  | _ => none }
def PaintStillWrongFalsely : Prop := paintStillRow.holds Tryd.pinned (OpenSpec.ofChange paintStillWrong)

/-- 'bodkinlaw21.PaintEnds': WHATEVER THE INPUT: true; the input reads as it did. -/
def paintEndsSpec : ChangeSpec := { name := "paintEnds", fn := fun _ => fun
  | [d1, d2, d3] => { results := [.lit (.bool true)], args := [d1, d2, d3] }
  | _ => none }
def paintEndsRow : OpenClaim := { program := "ytoodidokjchplaadoor", sum := "84392fd5412191696014761859e265bd1f0714075d5f9bfb57cd263158ba3a53", func := "bodkin/bodkinlaw21.PaintEnds", spec := "paintEnds", inPlace := ["internal/abi.NoEscape"], unfollowed := true, recurses := true, named := ["unicode/utf8.first", "unicode/utf8.acceptRanges", "internal/strconv.uint64pow10", "math/bits.deBruijn32tab", "math/bits.deBruijn64tab"], apart := false, laid := [("math/bits.deBruijn32tab", laid_math_bits_deBruijn32tab), ("math/bits.deBruijn64tab", laid_math_bits_deBruijn64tab), ("internal/strconv.uint64pow10", laid_internal_strconv_uint64pow10), ("unicode/utf8.acceptRanges", laid_unicode_utf8_acceptRanges), ("unicode/utf8.first", laid_unicode_utf8_first)] }
def PaintEndsSaid : Prop := paintEndsRow.holds Tryd.pinned (OpenSpec.ofChange paintEndsSpec)

/-- ITS FALSE NEIGHBOUR: 'it returns false'. Refute it at one input. -/
def paintEndsWrong : ChangeSpec := { name := "paintEnds", fn := fun _ => fun
  | [d1, d2, d3] => { results := [.lit (.bool false)], args := [d1, d2, d3] }
  | _ => none }
def PaintEndsWrongFalsely : Prop := paintEndsRow.holds Tryd.pinned (OpenSpec.ofChange paintEndsWrong)

/- THE SECOND FORM. 'bulk': how many values and letters a reading holds, each counted each time it is reached (what is shared counts as often as it is met; a slice's spare places count too). A statement '..UptoSaid' is the law's where the arguments, and the package variables that the reading takes, are together of bulk at most 1048576: NARROWER than '..Said'. Prove '..Said' where nothing that the law and all that it calls make is longer than what came in: it says more and counts as full. Else prove '..UptoSaid'. A law counts once. -/
mutual
def uptoBulk {H : Type} : DataW H → Nat
  | .lit (.string bytes) => bytes.length + 1
  | .lit _ => 1
  | .nil => 1
  | .ptr d => uptoBulk d + 1
  | .slice elems spare => uptoBulkAll elems + uptoBulkAll spare + 1
  | .agg parts => uptoBulkAll parts + 1
  | .iface _ d => uptoBulk d + 1
  | .map entries => uptoBulkEntries entries + 1
  | .held _ => 1
def uptoBulkAll {H : Type} : List (DataW H) → Nat
  | [] => 0
  | d :: r => uptoBulk d + uptoBulkAll r
def uptoBulkEntries {H : Type} : List (Lit × DataW H) → Nat
  | [] => 0
  | x :: r => uptoBulkEntry x + uptoBulkEntries r
def uptoBulkEntry {H : Type} : Lit × DataW H → Nat
  | (.string bytes, d) => bytes.length + uptoBulk d + 1
  | (_, d) => uptoBulk d + 1
 end
def uptoSmall : (H : Type) → List (DataW H) → Bool := fun _ ds => decide (uptoBulkAll ds ≤ 1048576)
def OpenSpec.upto (s : _root_.Go.ChangeSpec) : _root_.Go.OpenSpec := { _root_.Go.OpenSpec.ofChange s with cond := some uptoSmall }

/-- 'bodkinlaw04.MetricJoins', WHERE WHAT IT READS IS OF BULK AT MOST 1048576: true; the input reads as it did. -/
def metricJoinsUptoRow : OpenClaim := { program := "ytoodidokjchplaadoor", sum := "84392fd5412191696014761859e265bd1f0714075d5f9bfb57cd263158ba3a53", func := "bodkin/bodkinlaw04.MetricJoins", spec := "metricJoins", inPlace := ["internal/bytealg.CountString", "internal/bytealg.IndexByteString", "internal/bytealg.IndexString"], unfollowed := true, recurses := true, named := ["unicode/utf8.first", "unicode/utf8.acceptRanges", "internal/bytealg.MaxLen"], apart := false, laid := [("unicode/utf8.acceptRanges", laid_unicode_utf8_acceptRanges), ("unicode/utf8.first", laid_unicode_utf8_first)], narrowed := true }
def MetricJoinsUptoSaid : Prop := metricJoinsUptoRow.holds Tryd.pinned (OpenSpec.upto metricJoinsSpec)

/-- 'bodkinlaw04.MetricHomes', WHERE WHAT IT READS IS OF BULK AT MOST 1048576: true; the input reads as it did. -/
def metricHomesUptoRow : OpenClaim := { program := "ytoodidokjchplaadoor", sum := "84392fd5412191696014761859e265bd1f0714075d5f9bfb57cd263158ba3a53", func := "bodkin/bodkinlaw04.MetricHomes", spec := "metricHomes", inPlace := ["internal/bytealg.CountString", "internal/bytealg.IndexByteString", "internal/bytealg.IndexString"], unfollowed := true, recurses := true, named := ["unicode/utf8.first", "unicode/utf8.acceptRanges", "internal/bytealg.MaxLen"], apart := false, laid := [("unicode/utf8.acceptRanges", laid_unicode_utf8_acceptRanges), ("unicode/utf8.first", laid_unicode_utf8_first)], narrowed := true }
def MetricHomesUptoSaid : Prop := metricHomesUptoRow.holds Tryd.pinned (OpenSpec.upto metricHomesSpec)

/-- 'bodkinlaw04.MetricTells', WHERE WHAT IT READS IS OF BULK AT MOST 1048576: true; the input reads as it did. -/
def metricTellsUptoRow : OpenClaim := { program := "ytoodidokjchplaadoor", sum := "84392fd5412191696014761859e265bd1f0714075d5f9bfb57cd263158ba3a53", func := "bodkin/bodkinlaw04.MetricTells", spec := "metricTells", inPlace := ["internal/bytealg.CountString", "internal/bytealg.IndexByteString", "internal/bytealg.IndexString"], unfollowed := true, recurses := true, named := ["unicode/utf8.first", "unicode/utf8.acceptRanges", "internal/bytealg.MaxLen"], apart := false, laid := [("unicode/utf8.acceptRanges", laid_unicode_utf8_acceptRanges), ("unicode/utf8.first", laid_unicode_utf8_first)], narrowed := true }
def MetricTellsUptoSaid : Prop := metricTellsUptoRow.holds Tryd.pinned (OpenSpec.upto metricTellsSpec)

/-- 'bodkinlaw04.MetricSeams', WHERE WHAT IT READS IS OF BULK AT MOST 1048576: true; the input reads as it did. -/
def metricSeamsUptoRow : OpenClaim := { program := "ytoodidokjchplaadoor", sum := "84392fd5412191696014761859e265bd1f0714075d5f9bfb57cd263158ba3a53", func := "bodkin/bodkinlaw04.MetricSeams", spec := "metricSeams", inPlace := ["internal/bytealg.CountString", "internal/bytealg.IndexByteString", "internal/bytealg.IndexString"], unfollowed := true, recurses := true, named := ["unicode/utf8.first", "unicode/utf8.acceptRanges", "internal/bytealg.MaxLen"], apart := false, laid := [("unicode/utf8.acceptRanges", laid_unicode_utf8_acceptRanges), ("unicode/utf8.first", laid_unicode_utf8_first)], narrowed := true }
def MetricSeamsUptoSaid : Prop := metricSeamsUptoRow.holds Tryd.pinned (OpenSpec.upto metricSeamsSpec)

/-- 'bodkinlaw04.MetricMeasures', WHERE WHAT IT READS IS OF BULK AT MOST 1048576: true; the input reads as it did. -/
def metricMeasuresUptoRow : OpenClaim := { program := "ytoodidokjchplaadoor", sum := "84392fd5412191696014761859e265bd1f0714075d5f9bfb57cd263158ba3a53", func := "bodkin/bodkinlaw04.MetricMeasures", spec := "metricMeasures", inPlace := ["internal/bytealg.CountString", "internal/bytealg.IndexByteString", "internal/bytealg.IndexString"], unfollowed := true, recurses := true, named := ["unicode/utf8.first", "unicode/utf8.acceptRanges", "internal/bytealg.MaxLen"], apart := false, laid := [("unicode/utf8.acceptRanges", laid_unicode_utf8_acceptRanges), ("unicode/utf8.first", laid_unicode_utf8_first)], narrowed := true }
def MetricMeasuresUptoSaid : Prop := metricMeasuresUptoRow.holds Tryd.pinned (OpenSpec.upto metricMeasuresSpec)

/-- 'bodkinlaw04.MetricEnds', WHERE WHAT IT READS IS OF BULK AT MOST 1048576: true; the input reads as it did. -/
def metricEndsUptoRow : OpenClaim := { program := "ytoodidokjchplaadoor", sum := "84392fd5412191696014761859e265bd1f0714075d5f9bfb57cd263158ba3a53", func := "bodkin/bodkinlaw04.MetricEnds", spec := "metricEnds", inPlace := ["internal/bytealg.CountString", "internal/bytealg.IndexByteString", "internal/bytealg.IndexString"], unfollowed := true, recurses := true, named := ["unicode/utf8.first", "unicode/utf8.acceptRanges", "internal/bytealg.MaxLen"], apart := false, laid := [("unicode/utf8.acceptRanges", laid_unicode_utf8_acceptRanges), ("unicode/utf8.first", laid_unicode_utf8_first)], narrowed := true }
def MetricEndsUptoSaid : Prop := metricEndsUptoRow.holds Tryd.pinned (OpenSpec.upto metricEndsSpec)

/-- 'bodkinlaw04.MetricRanges', WHERE WHAT IT READS IS OF BULK AT MOST 1048576: true; the input reads as it did. -/
def metricRangesUptoRow : OpenClaim := { program := "ytoodidokjchplaadoor", sum := "84392fd5412191696014761859e265bd1f0714075d5f9bfb57cd263158ba3a53", func := "bodkin/bodkinlaw04.MetricRanges", spec := "metricRanges", inPlace := ["internal/bytealg.CountString", "internal/bytealg.IndexByteString", "internal/bytealg.IndexString"], unfollowed := true, recurses := true, named := ["unicode/utf8.first", "unicode/utf8.acceptRanges", "internal/bytealg.MaxLen"], apart := false, laid := [("unicode/utf8.acceptRanges", laid_unicode_utf8_acceptRanges), ("unicode/utf8.first", laid_unicode_utf8_first)], narrowed := true }
def MetricRangesUptoSaid : Prop := metricRangesUptoRow.holds Tryd.pinned (OpenSpec.upto metricRangesSpec)

/-- 'bodkinlaw04.MetricCuts', WHERE WHAT IT READS IS OF BULK AT MOST 1048576: true; the input reads as it did. -/
def metricCutsUptoRow : OpenClaim := { program := "ytoodidokjchplaadoor", sum := "84392fd5412191696014761859e265bd1f0714075d5f9bfb57cd263158ba3a53", func := "bodkin/bodkinlaw04.MetricCuts", spec := "metricCuts", inPlace := ["internal/bytealg.CountString", "internal/bytealg.IndexByteString", "internal/bytealg.IndexString"], unfollowed := true, recurses := true, named := ["unicode/utf8.first", "unicode/utf8.acceptRanges", "internal/bytealg.MaxLen"], apart := false, laid := [("unicode/utf8.acceptRanges", laid_unicode_utf8_acceptRanges), ("unicode/utf8.first", laid_unicode_utf8_first)], narrowed := true }
def MetricCutsUptoSaid : Prop := metricCutsUptoRow.holds Tryd.pinned (OpenSpec.upto metricCutsSpec)

/-- 'bodkinlaw21.PaintFits', WHERE WHAT IT READS IS OF BULK AT MOST 1048576: true; the input reads as it did. -/
def paintFitsUptoRow : OpenClaim := { program := "ytoodidokjchplaadoor", sum := "84392fd5412191696014761859e265bd1f0714075d5f9bfb57cd263158ba3a53", func := "bodkin/bodkinlaw21.PaintFits", spec := "paintFits", inPlace := ["internal/abi.NoEscape"], unfollowed := true, recurses := true, named := ["unicode/utf8.first", "unicode/utf8.acceptRanges", "internal/strconv.uint64pow10", "math/bits.deBruijn32tab", "math/bits.deBruijn64tab"], apart := false, laid := [("math/bits.deBruijn32tab", laid_math_bits_deBruijn32tab), ("math/bits.deBruijn64tab", laid_math_bits_deBruijn64tab), ("internal/strconv.uint64pow10", laid_internal_strconv_uint64pow10), ("unicode/utf8.acceptRanges", laid_unicode_utf8_acceptRanges), ("unicode/utf8.first", laid_unicode_utf8_first)], narrowed := true }
def PaintFitsUptoSaid : Prop := paintFitsUptoRow.holds Tryd.pinned (OpenSpec.upto paintFitsSpec)

/-- 'bodkinlaw21.PaintPaints', WHERE WHAT IT READS IS OF BULK AT MOST 1048576: true; the input reads as it did. -/
def paintPaintsUptoRow : OpenClaim := { program := "ytoodidokjchplaadoor", sum := "84392fd5412191696014761859e265bd1f0714075d5f9bfb57cd263158ba3a53", func := "bodkin/bodkinlaw21.PaintPaints", spec := "paintPaints", inPlace := ["internal/abi.NoEscape"], unfollowed := true, recurses := true, named := ["unicode/utf8.first", "unicode/utf8.acceptRanges", "internal/strconv.uint64pow10", "math/bits.deBruijn32tab", "math/bits.deBruijn64tab"], apart := false, laid := [("math/bits.deBruijn32tab", laid_math_bits_deBruijn32tab), ("math/bits.deBruijn64tab", laid_math_bits_deBruijn64tab), ("internal/strconv.uint64pow10", laid_internal_strconv_uint64pow10), ("unicode/utf8.acceptRanges", laid_unicode_utf8_acceptRanges), ("unicode/utf8.first", laid_unicode_utf8_first)], narrowed := true }
def PaintPaintsUptoSaid : Prop := paintPaintsUptoRow.holds Tryd.pinned (OpenSpec.upto paintPaintsSpec)

/-- 'bodkinlaw21.PaintStill', WHERE WHAT IT READS IS OF BULK AT MOST 1048576: true; the input reads as it did. -/
def paintStillUptoRow : OpenClaim := { program := "ytoodidokjchplaadoor", sum := "84392fd5412191696014761859e265bd1f0714075d5f9bfb57cd263158ba3a53", func := "bodkin/bodkinlaw21.PaintStill", spec := "paintStill", inPlace := ["internal/abi.NoEscape"], unfollowed := true, recurses := true, named := ["unicode/utf8.first", "unicode/utf8.acceptRanges", "internal/strconv.uint64pow10", "math/bits.deBruijn32tab", "math/bits.deBruijn64tab"], apart := false, laid := [("math/bits.deBruijn32tab", laid_math_bits_deBruijn32tab), ("math/bits.deBruijn64tab", laid_math_bits_deBruijn64tab), ("internal/strconv.uint64pow10", laid_internal_strconv_uint64pow10), ("unicode/utf8.acceptRanges", laid_unicode_utf8_acceptRanges), ("unicode/utf8.first", laid_unicode_utf8_first)], narrowed := true }
def PaintStillUptoSaid : Prop := paintStillUptoRow.holds Tryd.pinned (OpenSpec.upto paintStillSpec)

/-- 'bodkinlaw21.PaintEnds', WHERE WHAT IT READS IS OF BULK AT MOST 1048576: true; the input reads as it did. -/
def paintEndsUptoRow : OpenClaim := { program := "ytoodidokjchplaadoor", sum := "84392fd5412191696014761859e265bd1f0714075d5f9bfb57cd263158ba3a53", func := "bodkin/bodkinlaw21.PaintEnds", spec := "paintEnds", inPlace := ["internal/abi.NoEscape"], unfollowed := true, recurses := true, named := ["unicode/utf8.first", "unicode/utf8.acceptRanges", "internal/strconv.uint64pow10", "math/bits.deBruijn32tab", "math/bits.deBruijn64tab"], apart := false, laid := [("math/bits.deBruijn32tab", laid_math_bits_deBruijn32tab), ("math/bits.deBruijn64tab", laid_math_bits_deBruijn64tab), ("internal/strconv.uint64pow10", laid_internal_strconv_uint64pow10), ("unicode/utf8.acceptRanges", laid_unicode_utf8_acceptRanges), ("unicode/utf8.first", laid_unicode_utf8_first)], narrowed := true }
def PaintEndsUptoSaid : Prop := paintEndsUptoRow.holds Tryd.pinned (OpenSpec.upto paintEndsSpec)

end Rows
end Go.Proofs.YtoodidokjchplaaDoor
