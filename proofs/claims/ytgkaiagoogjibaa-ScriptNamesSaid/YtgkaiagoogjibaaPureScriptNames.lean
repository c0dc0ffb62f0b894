/- The law bodkinlaw24.ScriptNames: the numbers of kinds and errors are as stated. No condition. -/
import Derived.Test.YtgkaiagoogjibaaPScriptNamesx1
namespace Go.Proofs.Ytgkaiagoogjibaa.Pure
open Go.RowKit Go.Proofs.Ytgkaiagoogjibaa.PScriptNames Go.Proofs.YtgkaiagoogjibaaW.PrintWords Go.Proofs.YtgkaiagoogjibaaW.PrintLast

/-- YOURS: bodkinlaw24_ScriptNames.f  = some true
What it reaches (each with k first where it has rounds; `.mono`: more rounds tell the same; `.l0`, ..: its loops, with `.mono_l`): bodkinlaw24_ScriptNames.f -/
theorem ScriptNames : bodkinlaw24_ScriptNames.Pure := by
  rfl

end Go.Proofs.Ytgkaiagoogjibaa.Pure
