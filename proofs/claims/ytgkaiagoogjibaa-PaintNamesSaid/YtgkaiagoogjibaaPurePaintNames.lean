/- The law bodkinlaw21.PaintNames: the limits' numbers are as stated. No condition. -/
import Derived.Test.YtgkaiagoogjibaaPPaintNamesx1
namespace Go.Proofs.Ytgkaiagoogjibaa.Pure
open Go.RowKit Go.Proofs.Ytgkaiagoogjibaa.PPaintNames Go.Proofs.YtgkaiagoogjibaaW.PrintWords Go.Proofs.YtgkaiagoogjibaaW.PrintLast

/-- YOURS: bodkinlaw21_PaintNames.f  = some true
What it reaches (each with k first where it has rounds; `.mono`: more rounds tell the same; `.l0`, ..: its loops, with `.mono_l`): bodkinlaw21_PaintNames.f -/
theorem PaintNames : bodkinlaw21_PaintNames.Pure := by
  rfl

end Go.Proofs.Ytgkaiagoogjibaa.Pure
