/- Names of places. Plain lists. -/
import Derived.Test.YtmafgccagaihbaaHist
namespace Go.Proofs.Ytmafgccagaihbaa
open Go Go.VV

structure Nm where
  bank : Int
  at_ : Int
  name : ByteArray
def cN (x : Nm) : List Value := [.int .i64 x.bank, .int .u16 x.at_, .string x.name]
theorem cN_len (x : Nm) : (cN x).length = 3 := rfl
end Go.Proofs.Ytmafgccagaihbaa
