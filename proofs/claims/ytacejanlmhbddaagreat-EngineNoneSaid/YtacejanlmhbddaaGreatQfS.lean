/- Parts. -/
import Derived.Test.YtacejanlmhbddaaGreatQfM
set_option maxRecDepth 100000
set_option maxHeartbeats 1000000
set_option linter.all false
namespace Go.Proofs.YtacejanlmhbddaaGreat
open Go Go.VV Go.Proofs Go.RowKit Go.Proofs.Tryz
def dat_fn (b : Nat) (k : Int) (w : AI) (h3 : w.cell? ⟨b, 3, none⟩ = some (.int .u64 k)) : aB prog 23 [P_ b] w [] (V_ (.int .u64 k)) := by
 refine dR_ func23 ?_
 refine ZCZ ?_
 refine ZEf ?_
 exact RZ (aE rfl rfl (aV h3 y_r)) rfl ZAR
end Go.Proofs.YtacejanlmhbddaaGreat
