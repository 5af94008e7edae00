/- Whatever game and budget come in: EngineAsks returns true, and all reads as it did. -/
import Derived.Test.YtacejanlmhbddaaGreatRows
import Derived.Test.YtacejanlmhbddaaGreatQfN
set_option maxRecDepth 100000
set_option maxHeartbeats 1000000
set_option linter.all false
namespace Go.Proofs.YtacejanlmhbddaaGreat
open Go Go.VV Go.Proofs Go.ChangeShapes Go.WideShapes Go.ChangeAt Go.RowKit Go.Proofs.Tryz
def own : ownKnob prog.godebug = none := by kernel_rfl
def laidOut : laidOutB prog = true := by kernel_rfl
def and_i {a b : Bool} (h2 : b = true) (h1 : a = true) : (a && b) = true := by rw [h1, h2]; rfl
end Go.Proofs.YtacejanlmhbddaaGreat
