/- A machine decoded from any bytes. Plain laws, no program. -/
import Derived.Test.YtldehodcfajpjaaGreatQcZ
set_option linter.unusedSimpArgs false
set_option linter.unusedVariables false
set_option maxRecDepth 100000
namespace Go.Proofs.YtldehodcfajpjaaGreat
open Go Go.VV
def flipL (l : List Int) (k : Nat) (x : Int) : List Int := l.set k (bxor .u8 (l.getD k 0) x)
theorem xor_ok (a b : Int) : 0 ≤ bxor .u8 a b ∧ bxor .u8 a b < 256 := by unfold bxor; rw [wrap_u8]; omega
theorem flipL_len (l : List Int) (k : Nat) (x : Int) : (flipL l k x).length = l.length := List.length_set
theorem flipL_byts {l : List Int} (h : Byts l) (k : Nat) (x : Int) : Byts (flipL l k x) := byts_set1 h (xor_ok _ _) k
end Go.Proofs.YtldehodcfajpjaaGreat
