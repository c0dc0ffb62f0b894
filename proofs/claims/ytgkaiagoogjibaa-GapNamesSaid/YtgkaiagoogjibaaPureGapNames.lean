/- The law bodkinlaw06.GapNames: its numbers of errors and limits are as stated, for every run. No condition. -/
import Derived.Test.YtgkaiagoogjibaaPGapNamesx1
namespace Go.Proofs.Ytgkaiagoogjibaa.Pure
open Go.RowKit Go.Proofs.Ytgkaiagoogjibaa.PGapNames Go.Proofs.YtgkaiagoogjibaaW.PrintWords Go.Proofs.YtgkaiagoogjibaaW.PrintLast

/-- YOURS: bodkinlaw06_GapNames.f  = some true
What it reaches (each with k first where it has rounds; `.mono`: more rounds tell the same; `.l0`, ..: its loops, with `.mono_l`): bodkinlaw06_GapNames.f -/
theorem GapNames : bodkinlaw06_GapNames.Pure := by
  rfl

end Go.Proofs.Ytgkaiagoogjibaa.Pure
