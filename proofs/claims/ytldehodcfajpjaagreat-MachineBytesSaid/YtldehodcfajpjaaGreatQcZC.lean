/- The functions that are called have bodies. -/
import Derived.Test.YtldehodcfajpjaaGreatQcZA
set_option linter.unusedSimpArgs false
set_option linter.unusedVariables false
set_option maxRecDepth 100000
set_option maxHeartbeats 4000000
namespace Go.Proofs.YtldehodcfajpjaaGreat
open Go Go.VV Go.Proofs
theorem call_37 : callable Tryz.prog 37 = true := by kernel_rfl
end Go.Proofs.YtldehodcfajpjaaGreat
