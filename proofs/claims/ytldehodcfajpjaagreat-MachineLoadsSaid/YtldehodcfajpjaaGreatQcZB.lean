/- A machine is asked. -/
import Derived.Test.YtldehodcfajpjaaGreatQcX
set_option linter.unusedSimpArgs false
set_option linter.unusedVariables false
set_option maxRecDepth 100000
set_option maxHeartbeats 4000000
namespace Go.Proofs.YtldehodcfajpjaaGreat
open Go Go.VV Go.Proofs Go.RowKit
theorem peekL {w0 w : World} {ms : List Nat} {H : Heap} {q : MA} {m : Mm} (h : m.Wf) (hw : St w0 ms H w) (hs : ∀ x ∈ hM q m, x ∈ H) (a : Int) (ha : 0 ≤ a ∧ a < 65536) : Does Tryz.prog 25 [pM q, .int .u16 a] w [] (fun v H => H = [] ∧ v = .int .u8 (peekM a m)) :=
 peekM_fn q.A q.va m h w (hM_rows hw hs).1 (hM_rows hw hs).2.1 (hM_rows hw hs).2.2.1 (hM_rows hw hs).2.2.2 a ha
end Go.Proofs.YtldehodcfajpjaaGreat
