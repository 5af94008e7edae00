/-
  No cell of these rows narrows 'for every input' (looked for: loops, veiled, ifaces, maps, wideKeys, modest, calm, conditions, laid).
  DERIVED. THE GIVEN ROWS OF THIS SEAT. 6 by the template 'for every input the law returns true; each argument reads behind the call as it read before'; 0 by the template 'total and deterministic' (their statements: YtmihilhmdcndfaaTotals.lean).
  GIVEN WITH THE SEED: the statements are not yours to turn. If you find one false, say at which input.
  Laid BY PROGRAM, IN A SANDBOX (cutbox-rows.mjs): the forced cells as the released guide's own fill.sh prints them over the translation 20bdcfe020801579… (all of the seat's roots in one cut). By AI agents, Wed Nov 11 2026. No macro, syntax, notation, axiom, sorry.
-/
import Derived.Test.YtmihilhmdcndfaaChecked
import GoSem.Claim
import GoSem.ClaimJoined
import GoSem.ClaimMapViews
import Derived.JoinedTies
import Derived.KernelRfl
namespace Go.Proofs.Ytmihilhmdcndfaa
/- THE CELL 'sum', in the pinned program and in every row, IS THE sha256 OF THE DUMP (.gsa) THAT YtmihilhmdcndfaaProg.lean LOADS. Nothing in Lean hashes anything: it is a label: what it is worth is what the hold of that sum in a sandbox is worth. -/
noncomputable def Try.pinned : Pinned := { name := "ytmihilhmdcndfaa", sum := "20bdcfe020801579d5cf9af765ff16bec7aa820f1ee9fbdc9be9eae7400413d2", checked := Try.checked }
namespace Rows
def none {H : Type} : Left H := { results := [], args := [] }

/-- 'retrogradelaw03.OpsDecode': WHATEVER THE INPUT: true; the input reads as it did. -/
def opsDecodeSpec : ChangeSpec := { name := "opsDecode", fn := fun _ => fun
  | [d1, d2, d3, d4] => { results := [.lit (.bool true)], args := [d1, d2, d3, d4] }
  | _ => none }
def opsDecodeRow : OpenClaim := { program := "ytmihilhmdcndfaa", sum := "20bdcfe020801579d5cf9af765ff16bec7aa820f1ee9fbdc9be9eae7400413d2", func := "retrograde/retrogradelaw03.OpsDecode", spec := "opsDecode", inPlace := ["sync/atomic.LoadUint32", "(*internal/sync.Mutex).Lock", "internal/race.Disable", "sync/atomic.CompareAndSwapInt32", "internal/race.Enable", "internal/race.Acquire", "(*internal/sync.Mutex).lockSlow", "internal/sync.runtime_canSpin", "internal/sync.runtime_doSpin", "internal/sync.throw", "internal/sync.runtime_nanotime", "internal/sync.runtime_SemacquireMutex", "sync/atomic.AddInt32", "(*internal/sync.Mutex).Unlock", "internal/race.ReleaseMerge", "(*internal/sync.Mutex).unlockSlow", "internal/sync.fatal", "internal/sync.runtime_Semrelease", "sync/atomic.StoreUint32"], unfollowed := true, recurses := true, apart := false }
def OpsDecodeSaid : Prop := opsDecodeRow.holds Try.pinned (OpenSpec.ofChange opsDecodeSpec)

/-- ITS FALSE NEIGHBOUR: 'it returns false'. Refute it at one input. -/
def opsDecodeWrong : ChangeSpec := { name := "opsDecode", fn := fun _ => fun
  | [d1, d2, d3, d4] => { results := [.lit (.bool false)], args := [d1, d2, d3, d4] }
  | _ => none }
def OpsDecodeWrongFalsely : Prop := opsDecodeRow.holds Try.pinned (OpenSpec.ofChange opsDecodeWrong)

/-- 'retrogradelaw03.OpsText': WHATEVER THE INPUT: true; the input reads as it did. -/
def opsTextSpec : ChangeSpec := { name := "opsText", fn := fun _ => fun
  | [d1, d2, d3, d4] => { results := [.lit (.bool true)], args := [d1, d2, d3, d4] }
  | _ => none }
def opsTextRow : OpenClaim := { program := "ytmihilhmdcndfaa", sum := "20bdcfe020801579d5cf9af765ff16bec7aa820f1ee9fbdc9be9eae7400413d2", func := "retrograde/retrogradelaw03.OpsText", spec := "opsText", inPlace := ["sync/atomic.LoadUint32", "(*internal/sync.Mutex).Lock", "internal/race.Disable", "sync/atomic.CompareAndSwapInt32", "internal/race.Enable", "internal/race.Acquire", "(*internal/sync.Mutex).lockSlow", "internal/sync.runtime_canSpin", "internal/sync.runtime_doSpin", "internal/sync.throw", "internal/sync.runtime_nanotime", "internal/sync.runtime_SemacquireMutex", "sync/atomic.AddInt32", "(*internal/sync.Mutex).Unlock", "internal/race.ReleaseMerge", "(*internal/sync.Mutex).unlockSlow", "internal/sync.fatal", "internal/sync.runtime_Semrelease", "sync/atomic.StoreUint32"], unfollowed := true, recurses := true, apart := false }
def OpsTextSaid : Prop := opsTextRow.holds Try.pinned (OpenSpec.ofChange opsTextSpec)

/-- ITS FALSE NEIGHBOUR: 'it returns false'. Refute it at one input. -/
def opsTextWrong : ChangeSpec := { name := "opsText", fn := fun _ => fun
  | [d1, d2, d3, d4] => { results := [.lit (.bool false)], args := [d1, d2, d3, d4] }
  | _ => none }
def OpsTextWrongFalsely : Prop := opsTextRow.holds Try.pinned (OpenSpec.ofChange opsTextWrong)

/-- 'retrogradelaw03.OpsSizes': WHATEVER THE INPUT: true; the input reads as it did. -/
def opsSizesSpec : ChangeSpec := { name := "opsSizes", fn := fun _ => fun
  | [d1, d2, d3, d4] => { results := [.lit (.bool true)], args := [d1, d2, d3, d4] }
  | _ => none }
def opsSizesRow : OpenClaim := { program := "ytmihilhmdcndfaa", sum := "20bdcfe020801579d5cf9af765ff16bec7aa820f1ee9fbdc9be9eae7400413d2", func := "retrograde/retrogradelaw03.OpsSizes", spec := "opsSizes", inPlace := ["sync/atomic.LoadUint32", "(*internal/sync.Mutex).Lock", "internal/race.Disable", "sync/atomic.CompareAndSwapInt32", "internal/race.Enable", "internal/race.Acquire", "(*internal/sync.Mutex).lockSlow", "internal/sync.runtime_canSpin", "internal/sync.runtime_doSpin", "internal/sync.throw", "internal/sync.runtime_nanotime", "internal/sync.runtime_SemacquireMutex", "sync/atomic.AddInt32", "(*internal/sync.Mutex).Unlock", "internal/race.ReleaseMerge", "(*internal/sync.Mutex).unlockSlow", "internal/sync.fatal", "internal/sync.runtime_Semrelease", "sync/atomic.StoreUint32"], unfollowed := true, recurses := true, apart := false }
def OpsSizesSaid : Prop := opsSizesRow.holds Try.pinned (OpenSpec.ofChange opsSizesSpec)

/-- ITS FALSE NEIGHBOUR: 'it returns false'. Refute it at one input. -/
def opsSizesWrong : ChangeSpec := { name := "opsSizes", fn := fun _ => fun
  | [d1, d2, d3, d4] => { results := [.lit (.bool false)], args := [d1, d2, d3, d4] }
  | _ => none }
def OpsSizesWrongFalsely : Prop := opsSizesRow.holds Try.pinned (OpenSpec.ofChange opsSizesWrong)

/-- 'retrogradelaw03.OpsApart': WHATEVER THE INPUT: true; the input reads as it did. -/
def opsApartSpec : ChangeSpec := { name := "opsApart", fn := fun _ => fun
  | [d1, d2, d3, d4, d5, d6] => { results := [.lit (.bool true)], args := [d1, d2, d3, d4, d5, d6] }
  | _ => none }
def opsApartRow : OpenClaim := { program := "ytmihilhmdcndfaa", sum := "20bdcfe020801579d5cf9af765ff16bec7aa820f1ee9fbdc9be9eae7400413d2", func := "retrograde/retrogradelaw03.OpsApart", spec := "opsApart", inPlace := ["sync/atomic.LoadUint32", "(*internal/sync.Mutex).Lock", "internal/race.Disable", "sync/atomic.CompareAndSwapInt32", "internal/race.Enable", "internal/race.Acquire", "(*internal/sync.Mutex).lockSlow", "internal/sync.runtime_canSpin", "internal/sync.runtime_doSpin", "internal/sync.throw", "internal/sync.runtime_nanotime", "internal/sync.runtime_SemacquireMutex", "sync/atomic.AddInt32", "(*internal/sync.Mutex).Unlock", "internal/race.ReleaseMerge", "(*internal/sync.Mutex).unlockSlow", "internal/sync.fatal", "internal/sync.runtime_Semrelease", "sync/atomic.StoreUint32"], unfollowed := true, recurses := true, apart := false }
def OpsApartSaid : Prop := opsApartRow.holds Try.pinned (OpenSpec.ofChange opsApartSpec)

/-- ITS FALSE NEIGHBOUR: 'it returns false'. Refute it at one input. -/
def opsApartWrong : ChangeSpec := { name := "opsApart", fn := fun _ => fun
  | [d1, d2, d3, d4, d5, d6] => { results := [.lit (.bool false)], args := [d1, d2, d3, d4, d5, d6] }
  | _ => none }
def OpsApartWrongFalsely : Prop := opsApartRow.holds Try.pinned (OpenSpec.ofChange opsApartWrong)

/-- 'retrogradelaw03.OpsNil': WHATEVER THE INPUT: true; the input reads as it did. -/
def opsNilSpec : ChangeSpec := { name := "opsNil", fn := fun _ => fun
  | [d1, d2, d3] => { results := [.lit (.bool true)], args := [d1, d2, d3] }
  | _ => none }
def opsNilRow : OpenClaim := { program := "ytmihilhmdcndfaa", sum := "20bdcfe020801579d5cf9af765ff16bec7aa820f1ee9fbdc9be9eae7400413d2", func := "retrograde/retrogradelaw03.OpsNil", spec := "opsNil", inPlace := ["sync/atomic.LoadUint32", "(*internal/sync.Mutex).Lock", "internal/race.Disable", "sync/atomic.CompareAndSwapInt32", "internal/race.Enable", "internal/race.Acquire", "(*internal/sync.Mutex).lockSlow", "internal/sync.runtime_canSpin", "internal/sync.runtime_doSpin", "internal/sync.throw", "internal/sync.runtime_nanotime", "internal/sync.runtime_SemacquireMutex", "sync/atomic.AddInt32", "(*internal/sync.Mutex).Unlock", "internal/race.ReleaseMerge", "(*internal/sync.Mutex).unlockSlow", "internal/sync.fatal", "internal/sync.runtime_Semrelease", "sync/atomic.StoreUint32"], unfollowed := true, recurses := true, apart := false }
def OpsNilSaid : Prop := opsNilRow.holds Try.pinned (OpenSpec.ofChange opsNilSpec)

/-- ITS FALSE NEIGHBOUR: 'it returns false'. Refute it at one input. -/
def opsNilWrong : ChangeSpec := { name := "opsNil", fn := fun _ => fun
  | [d1, d2, d3] => { results := [.lit (.bool false)], args := [d1, d2, d3] }
  | _ => none }
def OpsNilWrongFalsely : Prop := opsNilRow.holds Try.pinned (OpenSpec.ofChange opsNilWrong)

/-- 'retrogradelaw03.OpsWords': WHATEVER THE INPUT: true; the input reads as it did. -/
def opsWordsSpec : ChangeSpec := { name := "opsWords", fn := fun _ => fun
  | [d1, d2, d3] => { results := [.lit (.bool true)], args := [d1, d2, d3] }
  | _ => none }
def opsWordsRow : OpenClaim := { program := "ytmihilhmdcndfaa", sum := "20bdcfe020801579d5cf9af765ff16bec7aa820f1ee9fbdc9be9eae7400413d2", func := "retrograde/retrogradelaw03.OpsWords", spec := "opsWords", inPlace := ["sync/atomic.LoadUint32", "(*internal/sync.Mutex).Lock", "internal/race.Disable", "sync/atomic.CompareAndSwapInt32", "internal/race.Enable", "internal/race.Acquire", "(*internal/sync.Mutex).lockSlow", "internal/sync.runtime_canSpin", "internal/sync.runtime_doSpin", "internal/sync.throw", "internal/sync.runtime_nanotime", "internal/sync.runtime_SemacquireMutex", "sync/atomic.AddInt32", "(*internal/sync.Mutex).Unlock", "internal/race.ReleaseMerge", "(*internal/sync.Mutex).unlockSlow", "internal/sync.fatal", "internal/sync.runtime_Semrelease", "sync/atomic.StoreUint32"], unfollowed := true, recurses := true, apart := false }
def OpsWordsSaid : Prop := opsWordsRow.holds Try.pinned (OpenSpec.ofChange opsWordsSpec)

/-- ITS FALSE NEIGHBOUR: 'it returns false'. Refute it at one input. -/
def opsWordsWrong : ChangeSpec := { name := "opsWords", fn := fun _ => fun
  | [d1, d2, d3] => { results := [.lit (.bool false)], args := [d1, d2, d3] }
  | _ => none }
def OpsWordsWrongFalsely : Prop := opsWordsRow.holds Try.pinned (OpenSpec.ofChange opsWordsWrong)

/- THE SECOND FORM. 'bulk': how many values and letters a reading holds, each counted each time it is reached (what is shared counts as often as it is met; a slice's spare places count too). A statement '..UptoSaid' is the law's where the arguments, and the package variables that the reading takes, are together of bulk at most 1048576: NARROWER than '..Said'. Prove '..Said' where nothing that the law and all that it calls make is longer than what came in: it says more and counts as full. Else prove '..UptoSaid'. A law counts once. -/
mutual
def uptoBulk {H : Type} : DataW H → Nat
  | .lit (.string bytes) => bytes.length + 1
  | .lit _ => 1
  | .nil => 1
  | .ptr d => uptoBulk d + 1
  | .slice elems spare => uptoBulkAll elems + uptoBulkAll spare + 1
  | .agg parts => uptoBulkAll parts + 1
  | .iface _ d => uptoBulk d + 1
  | .map entries => uptoBulkEntries entries + 1
  | .held _ => 1
def uptoBulkAll {H : Type} : List (DataW H) → Nat
  | [] => 0
  | d :: r => uptoBulk d + uptoBulkAll r
def uptoBulkEntries {H : Type} : List (Lit × DataW H) → Nat
  | [] => 0
  | x :: r => uptoBulkEntry x + uptoBulkEntries r
def uptoBulkEntry {H : Type} : Lit × DataW H → Nat
  | (.string bytes, d) => bytes.length + uptoBulk d + 1
  | (_, d) => uptoBulk d + 1
 end
def uptoSmall : (H : Type) → List (DataW H) → Bool := fun _ ds => decide (uptoBulkAll ds ≤ 1048576)
def OpenSpec.upto (s : _root_.Go.ChangeSpec) : _root_.Go.OpenSpec := { _root_.Go.OpenSpec.ofChange s with cond := some uptoSmall }

/-- 'retrogradelaw03.OpsDecode', WHERE WHAT IT READS IS OF BULK AT MOST 1048576: true; the input reads as it did. -/
def opsDecodeUptoRow : OpenClaim := { program := "ytmihilhmdcndfaa", sum := "20bdcfe020801579d5cf9af765ff16bec7aa820f1ee9fbdc9be9eae7400413d2", func := "retrograde/retrogradelaw03.OpsDecode", spec := "opsDecode", inPlace := ["sync/atomic.LoadUint32", "(*internal/sync.Mutex).Lock", "internal/race.Disable", "sync/atomic.CompareAndSwapInt32", "internal/race.Enable", "internal/race.Acquire", "(*internal/sync.Mutex).lockSlow", "internal/sync.runtime_canSpin", "internal/sync.runtime_doSpin", "internal/sync.throw", "internal/sync.runtime_nanotime", "internal/sync.runtime_SemacquireMutex", "sync/atomic.AddInt32", "(*internal/sync.Mutex).Unlock", "internal/race.ReleaseMerge", "(*internal/sync.Mutex).unlockSlow", "internal/sync.fatal", "internal/sync.runtime_Semrelease", "sync/atomic.StoreUint32"], unfollowed := true, recurses := true, apart := false, narrowed := true }
def OpsDecodeUptoSaid : Prop := opsDecodeUptoRow.holds Try.pinned (OpenSpec.upto opsDecodeSpec)

/-- 'retrogradelaw03.OpsText', WHERE WHAT IT READS IS OF BULK AT MOST 1048576: true; the input reads as it did. -/
def opsTextUptoRow : OpenClaim := { program := "ytmihilhmdcndfaa", sum := "20bdcfe020801579d5cf9af765ff16bec7aa820f1ee9fbdc9be9eae7400413d2", func := "retrograde/retrogradelaw03.OpsText", spec := "opsText", inPlace := ["sync/atomic.LoadUint32", "(*internal/sync.Mutex).Lock", "internal/race.Disable", "sync/atomic.CompareAndSwapInt32", "internal/race.Enable", "internal/race.Acquire", "(*internal/sync.Mutex).lockSlow", "internal/sync.runtime_canSpin", "internal/sync.runtime_doSpin", "internal/sync.throw", "internal/sync.runtime_nanotime", "internal/sync.runtime_SemacquireMutex", "sync/atomic.AddInt32", "(*internal/sync.Mutex).Unlock", "internal/race.ReleaseMerge", "(*internal/sync.Mutex).unlockSlow", "internal/sync.fatal", "internal/sync.runtime_Semrelease", "sync/atomic.StoreUint32"], unfollowed := true, recurses := true, apart := false, narrowed := true }
def OpsTextUptoSaid : Prop := opsTextUptoRow.holds Try.pinned (OpenSpec.upto opsTextSpec)

/-- 'retrogradelaw03.OpsSizes', WHERE WHAT IT READS IS OF BULK AT MOST 1048576: true; the input reads as it did. -/
def opsSizesUptoRow : OpenClaim := { program := "ytmihilhmdcndfaa", sum := "20bdcfe020801579d5cf9af765ff16bec7aa820f1ee9fbdc9be9eae7400413d2", func := "retrograde/retrogradelaw03.OpsSizes", spec := "opsSizes", inPlace := ["sync/atomic.LoadUint32", "(*internal/sync.Mutex).Lock", "internal/race.Disable", "sync/atomic.CompareAndSwapInt32", "internal/race.Enable", "internal/race.Acquire", "(*internal/sync.Mutex).lockSlow", "internal/sync.runtime_canSpin", "internal/sync.runtime_doSpin", "internal/sync.throw", "internal/sync.runtime_nanotime", "internal/sync.runtime_SemacquireMutex", "sync/atomic.AddInt32", "(*internal/sync.Mutex).Unlock", "internal/race.ReleaseMerge", "(*internal/sync.Mutex).unlockSlow", "internal/sync.fatal", "internal/sync.runtime_Semrelease", "sync/atomic.StoreUint32"], unfollowed := true, recurses := true, apart := false, narrowed := true }
def OpsSizesUptoSaid : Prop := opsSizesUptoRow.holds Try.pinned (OpenSpec.upto opsSizesSpec)

/-- 'retrogradelaw03.OpsApart', WHERE WHAT IT READS IS OF BULK AT MOST 1048576: true; the input reads as it did. -/
def opsApartUptoRow : OpenClaim := { program := "ytmihilhmdcndfaa", sum := "20bdcfe020801579d5cf9af765ff16bec7aa820f1ee9fbdc9be9eae7400413d2", func := "retrograde/retrogradelaw03.OpsApart", spec := "opsApart", inPlace := ["sync/atomic.LoadUint32", "(*internal/sync.Mutex).Lock", "internal/race.Disable", "sync/atomic.CompareAndSwapInt32", "internal/race.Enable", "internal/race.Acquire", "(*internal/sync.Mutex).lockSlow", "internal/sync.runtime_canSpin", "internal/sync.runtime_doSpin", "internal/sync.throw", "internal/sync.runtime_nanotime", "internal/sync.runtime_SemacquireMutex", "sync/atomic.AddInt32", "(*internal/sync.Mutex).Unlock", "internal/race.ReleaseMerge", "(*internal/sync.Mutex).unlockSlow", "internal/sync.fatal", "internal/sync.runtime_Semrelease", "sync/atomic.StoreUint32"], unfollowed := true, recurses := true, apart := false, narrowed := true }
def OpsApartUptoSaid : Prop := opsApartUptoRow.holds Try.pinned (OpenSpec.upto opsApartSpec)

/-- 'retrogradelaw03.OpsNil', WHERE WHAT IT READS IS OF BULK AT MOST 1048576: true; the input reads as it did. -/
def opsNilUptoRow : OpenClaim := { program := "ytmihilhmdcndfaa", sum := "20bdcfe020801579d5cf9af765ff16bec7aa820f1ee9fbdc9be9eae7400413d2", func := "retrograde/retrogradelaw03.OpsNil", spec := "opsNil", inPlace := ["sync/atomic.LoadUint32", "(*internal/sync.Mutex).Lock", "internal/race.Disable", "sync/atomic.CompareAndSwapInt32", "internal/race.Enable", "internal/race.Acquire", "(*internal/sync.Mutex).lockSlow", "internal/sync.runtime_canSpin", "internal/sync.runtime_doSpin", "internal/sync.throw", "internal/sync.runtime_nanotime", "internal/sync.runtime_SemacquireMutex", "sync/atomic.AddInt32", "(*internal/sync.Mutex).Unlock", "internal/race.ReleaseMerge", "(*internal/sync.Mutex).unlockSlow", "internal/sync.fatal", "internal/sync.runtime_Semrelease", "sync/atomic.StoreUint32"], unfollowed := true, recurses := true, apart := false, narrowed := true }
def OpsNilUptoSaid : Prop := opsNilUptoRow.holds Try.pinned (OpenSpec.upto opsNilSpec)

/-- 'retrogradelaw03.OpsWords', WHERE WHAT IT READS IS OF BULK AT MOST 1048576: true; the input reads as it did. -/
def opsWordsUptoRow : OpenClaim := { program := "ytmihilhmdcndfaa", sum := "20bdcfe020801579d5cf9af765ff16bec7aa820f1ee9fbdc9be9eae7400413d2", func := "retrograde/retrogradelaw03.OpsWords", spec := "opsWords", inPlace := ["sync/atomic.LoadUint32", "(*internal/sync.Mutex).Lock", "internal/race.Disable", "sync/atomic.CompareAndSwapInt32", "internal/race.Enable", "internal/race.Acquire", "(*internal/sync.Mutex).lockSlow", "internal/sync.runtime_canSpin", "internal/sync.runtime_doSpin", "internal/sync.throw", "internal/sync.runtime_nanotime", "internal/sync.runtime_SemacquireMutex", "sync/atomic.AddInt32", "(*internal/sync.Mutex).Unlock", "internal/race.ReleaseMerge", "(*internal/sync.Mutex).unlockSlow", "internal/sync.fatal", "internal/sync.runtime_Semrelease", "sync/atomic.StoreUint32"], unfollowed := true, recurses := true, apart := false, narrowed := true }
def OpsWordsUptoSaid : Prop := opsWordsUptoRow.holds Try.pinned (OpenSpec.upto opsWordsSpec)

end Rows
end Go.Proofs.Ytmihilhmdcndfaa
