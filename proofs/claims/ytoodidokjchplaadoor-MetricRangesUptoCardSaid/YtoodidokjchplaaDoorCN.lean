/- What counts() asks of the summaries; nothing of Go's memory. -/
import Derived.Test.YtoodidokjchplaaDoorMeS
namespace Go.Proofs.YtoodidokjchplaaDoor.Un
set_option linter.unusedVariables false
theorem cnt_m : meas [97, 13, 10, 228, 184, 128] = ⟨6, 4, 3, 3, 1, [97, 13, 10, 228, 184, 128], [97, 13, 10, 228, 184, 128]⟩ := by decide +kernel
theorem cnt_j : joinS sm0 [meas [226], meas [130, 172]] = meas [226, 130, 172] := join_all [[226], [130, 172]]
theorem cnt_v : (meas [226, 130, 172]).un = 1 ∧ (meas [226, 130, 172]).cl = 1 ∧ (meas [226, 130, 172]).by' = 3 := by decide +kernel
end Go.Proofs.YtoodidokjchplaaDoor.Un
