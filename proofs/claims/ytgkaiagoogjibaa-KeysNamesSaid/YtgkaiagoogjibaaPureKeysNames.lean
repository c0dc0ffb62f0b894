/- The law bodkinlaw18.KeysNames: the key kinds' numbers are as stated. No condition. -/
import Derived.Test.YtgkaiagoogjibaaPKeysNamesx1
namespace Go.Proofs.Ytgkaiagoogjibaa.Pure
open Go.RowKit Go.Proofs.Ytgkaiagoogjibaa.PKeysNames Go.Proofs.YtgkaiagoogjibaaW.PrintWords Go.Proofs.YtgkaiagoogjibaaW.PrintLast

/-- YOURS: bodkinlaw18_KeysNames.f  = some true
What it reaches (each with k first where it has rounds; `.mono`: more rounds tell the same; `.l0`, ..: its loops, with `.mono_l`): bodkinlaw18_KeysNames.f -/
theorem KeysNames : bodkinlaw18_KeysNames.Pure := by
  rfl

end Go.Proofs.Ytgkaiagoogjibaa.Pure
