/- Whatever game, steps and place come in: MachinePeeks returns true, and all reads as it did. -/
import Derived.Test.YtldehodcfajpjaaGreatRows
import Derived.Test.YtldehodcfajpjaaGreatQcX
set_option linter.unusedSimpArgs false
set_option linter.unusedVariables false
set_option maxRecDepth 100000
set_option maxHeartbeats 4000000
namespace Go.Proofs.YtldehodcfajpjaaGreat
open Go Go.VV Go.Proofs Go.ChangeShapes Go.WideShapes Go.ChangeAt Go.RowKit
theorem own : ownKnob Tryz.prog.godebug = none := by kernel_rfl
theorem laidOut : laidOutB Tryz.prog = true := by kernel_rfl
theorem and_i {a b : Bool} (h2 : b = true) (h1 : a = true) : (a && b) = true := by rw [h1, h2]; rfl
end Go.Proofs.YtldehodcfajpjaaGreat
