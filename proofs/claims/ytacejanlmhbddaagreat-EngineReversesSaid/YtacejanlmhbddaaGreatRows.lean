/-
  No cell of these rows narrows 'for every input' (looked for: loops, veiled, ifaces, maps, wideKeys, modest, calm, conditions, laid).
  DERIVED. THE GIVEN ROWS OF THIS SEAT. 6 by the template 'for every input the law returns true; each argument reads behind the call as it read before'; 0 by the template 'total and deterministic' (their statements: YtacejanlmhbddaaGreatTotals.lean).
  GIVEN WITH THE SEED: the statements are not yours to turn. If you find one false, say at which input.
  Laid BY PROGRAM, IN A SANDBOX (cutbox-rows.mjs): the forced cells as the released guide's own fill.sh prints them over the translation 76c067f310f1d0d5… (all of the seat's roots in one cut). By AI agents, Wed Nov 11 2026. No macro, syntax, notation, axiom, sorry.
-/
import Derived.Test.YtacejanlmhbddaaGreatChecked
import GoSem.Claim
import GoSem.ClaimJoined
import GoSem.ClaimMapViews
import Derived.JoinedTies
import Derived.KernelRfl
namespace Go.Proofs.YtacejanlmhbddaaGreat
/- THE CELL 'sum', in the pinned program and in every row, IS THE sha256 OF THE DUMP (.gsa) THAT YtacejanlmhbddaaGreatProg.lean LOADS. Nothing in Lean hashes anything: it is a label: what it is worth is what the hold of that sum in a sandbox is worth. -/
noncomputable def Tryz.pinned : Pinned := { name := "ytacejanlmhbddaagreat", sum := "76c067f310f1d0d53e5886082fe6b61475f94acab0deb97f1f46e4685e788880", checked := Tryz.checked }
namespace Rows
def none {H : Type} : Left H := { results := [], args := [] }

/-- 'retrogradelaw22.EngineCosts': WHATEVER THE INPUT: true; the input reads as it did. -/
def engineCostsSpec : ChangeSpec := { name := "engineCosts", fn := fun _ => fun
  | [d1, d2, d3, d4] => { results := [.lit (.bool true)], args := [d1, d2, d3, d4] }
  | _ => none }
def engineCostsRow : OpenClaim := { program := "ytacejanlmhbddaagreat", sum := "76c067f310f1d0d53e5886082fe6b61475f94acab0deb97f1f46e4685e788880", func := "retrograde/retrogradelaw22.EngineCosts", spec := "engineCosts", inPlace := ["internal/abi.NoEscape", "sync/atomic.LoadUint32", "(*internal/sync.Mutex).Lock", "internal/race.Disable", "sync/atomic.CompareAndSwapInt32", "internal/race.Enable", "internal/race.Acquire", "(*internal/sync.Mutex).lockSlow", "internal/sync.runtime_canSpin", "internal/sync.runtime_doSpin", "internal/sync.throw", "internal/sync.runtime_nanotime", "internal/sync.runtime_SemacquireMutex", "sync/atomic.AddInt32", "(*internal/sync.Mutex).Unlock", "internal/race.ReleaseMerge", "(*internal/sync.Mutex).unlockSlow", "internal/sync.fatal", "internal/sync.runtime_Semrelease", "sync/atomic.StoreUint32", "sync/atomic.AddUint64", "sync/atomic.LoadUint64"], unfollowed := true, recurses := true, apart := false }
def EngineCostsSaid : Prop := engineCostsRow.holds Tryz.pinned (OpenSpec.ofChange engineCostsSpec)

/-- ITS FALSE NEIGHBOUR: 'it returns false'. Refute it at one input. -/
def engineCostsWrong : ChangeSpec := { name := "engineCosts", fn := fun _ => fun
  | [d1, d2, d3, d4] => { results := [.lit (.bool false)], args := [d1, d2, d3, d4] }
  | _ => none }
def EngineCostsWrongFalsely : Prop := engineCostsRow.holds Tryz.pinned (OpenSpec.ofChange engineCostsWrong)

/-- 'retrogradelaw22.EngineSeeks': WHATEVER THE INPUT: true; the input reads as it did. -/
def engineSeeksSpec : ChangeSpec := { name := "engineSeeks", fn := fun _ => fun
  | [d1, d2, d3] => { results := [.lit (.bool true)], args := [d1, d2, d3] }
  | _ => none }
def engineSeeksRow : OpenClaim := { program := "ytacejanlmhbddaagreat", sum := "76c067f310f1d0d53e5886082fe6b61475f94acab0deb97f1f46e4685e788880", func := "retrograde/retrogradelaw22.EngineSeeks", spec := "engineSeeks", inPlace := ["internal/abi.NoEscape", "sync/atomic.LoadUint32", "(*internal/sync.Mutex).Lock", "internal/race.Disable", "sync/atomic.CompareAndSwapInt32", "internal/race.Enable", "internal/race.Acquire", "(*internal/sync.Mutex).lockSlow", "internal/sync.runtime_canSpin", "internal/sync.runtime_doSpin", "internal/sync.throw", "internal/sync.runtime_nanotime", "internal/sync.runtime_SemacquireMutex", "sync/atomic.AddInt32", "(*internal/sync.Mutex).Unlock", "internal/race.ReleaseMerge", "(*internal/sync.Mutex).unlockSlow", "internal/sync.fatal", "internal/sync.runtime_Semrelease", "sync/atomic.StoreUint32", "sync/atomic.AddUint64"], unfollowed := true, recurses := true, apart := false }
def EngineSeeksSaid : Prop := engineSeeksRow.holds Tryz.pinned (OpenSpec.ofChange engineSeeksSpec)

/-- ITS FALSE NEIGHBOUR: 'it returns false'. Refute it at one input. -/
def engineSeeksWrong : ChangeSpec := { name := "engineSeeks", fn := fun _ => fun
  | [d1, d2, d3] => { results := [.lit (.bool false)], args := [d1, d2, d3] }
  | _ => none }
def EngineSeeksWrongFalsely : Prop := engineSeeksRow.holds Tryz.pinned (OpenSpec.ofChange engineSeeksWrong)

/-- 'retrogradelaw22.EngineAsks': WHATEVER THE INPUT: true; the input reads as it did. -/
def engineAsksSpec : ChangeSpec := { name := "engineAsks", fn := fun _ => fun
  | [d1, d2] => { results := [.lit (.bool true)], args := [d1, d2] }
  | _ => none }
def engineAsksRow : OpenClaim := { program := "ytacejanlmhbddaagreat", sum := "76c067f310f1d0d53e5886082fe6b61475f94acab0deb97f1f46e4685e788880", func := "retrograde/retrogradelaw22.EngineAsks", spec := "engineAsks", inPlace := ["internal/abi.NoEscape", "sync/atomic.LoadUint32", "(*internal/sync.Mutex).Lock", "internal/race.Disable", "sync/atomic.CompareAndSwapInt32", "internal/race.Enable", "internal/race.Acquire", "(*internal/sync.Mutex).lockSlow", "internal/sync.runtime_canSpin", "internal/sync.runtime_doSpin", "internal/sync.throw", "internal/sync.runtime_nanotime", "internal/sync.runtime_SemacquireMutex", "sync/atomic.AddInt32", "(*internal/sync.Mutex).Unlock", "internal/race.ReleaseMerge", "(*internal/sync.Mutex).unlockSlow", "internal/sync.fatal", "internal/sync.runtime_Semrelease", "sync/atomic.StoreUint32", "sync/atomic.AddUint64", "sync/atomic.SwapUint32", "sync/atomic.LoadUint64"], unfollowed := true, recurses := true, apart := false }
def EngineAsksSaid : Prop := engineAsksRow.holds Tryz.pinned (OpenSpec.ofChange engineAsksSpec)

/-- ITS FALSE NEIGHBOUR: 'it returns false'. Refute it at one input. -/
def engineAsksWrong : ChangeSpec := { name := "engineAsks", fn := fun _ => fun
  | [d1, d2] => { results := [.lit (.bool false)], args := [d1, d2] }
  | _ => none }
def EngineAsksWrongFalsely : Prop := engineAsksRow.holds Tryz.pinned (OpenSpec.ofChange engineAsksWrong)

/-- 'retrogradelaw22.EngineReverses': WHATEVER THE INPUT: true; the input reads as it did. -/
def engineReversesSpec : ChangeSpec := { name := "engineReverses", fn := fun _ => fun
  | [d1, d2, d3, d4, d5] => { results := [.lit (.bool true)], args := [d1, d2, d3, d4, d5] }
  | _ => none }
def engineReversesRow : OpenClaim := { program := "ytacejanlmhbddaagreat", sum := "76c067f310f1d0d53e5886082fe6b61475f94acab0deb97f1f46e4685e788880", func := "retrograde/retrogradelaw22.EngineReverses", spec := "engineReverses", inPlace := ["internal/abi.NoEscape", "sync/atomic.LoadUint32", "(*internal/sync.Mutex).Lock", "internal/race.Disable", "sync/atomic.CompareAndSwapInt32", "internal/race.Enable", "internal/race.Acquire", "(*internal/sync.Mutex).lockSlow", "internal/sync.runtime_canSpin", "internal/sync.runtime_doSpin", "internal/sync.throw", "internal/sync.runtime_nanotime", "internal/sync.runtime_SemacquireMutex", "sync/atomic.AddInt32", "(*internal/sync.Mutex).Unlock", "internal/race.ReleaseMerge", "(*internal/sync.Mutex).unlockSlow", "internal/sync.fatal", "internal/sync.runtime_Semrelease", "sync/atomic.StoreUint32", "sync/atomic.AddUint64", "sync/atomic.SwapUint32"], unfollowed := true, recurses := true, apart := false }
def EngineReversesSaid : Prop := engineReversesRow.holds Tryz.pinned (OpenSpec.ofChange engineReversesSpec)

/-- ITS FALSE NEIGHBOUR: 'it returns false'. Refute it at one input. -/
def engineReversesWrong : ChangeSpec := { name := "engineReverses", fn := fun _ => fun
  | [d1, d2, d3, d4, d5] => { results := [.lit (.bool false)], args := [d1, d2, d3, d4, d5] }
  | _ => none }
def EngineReversesWrongFalsely : Prop := engineReversesRow.holds Tryz.pinned (OpenSpec.ofChange engineReversesWrong)

/-- 'retrogradelaw22.EngineNone': WHATEVER THE INPUT: true; the input reads as it did. -/
def engineNoneSpec : ChangeSpec := { name := "engineNone", fn := fun _ => fun
  | [d1, d2, d3, d4] => { results := [.lit (.bool true)], args := [d1, d2, d3, d4] }
  | _ => none }
def engineNoneRow : OpenClaim := { program := "ytacejanlmhbddaagreat", sum := "76c067f310f1d0d53e5886082fe6b61475f94acab0deb97f1f46e4685e788880", func := "retrograde/retrogradelaw22.EngineNone", spec := "engineNone", inPlace := ["internal/abi.NoEscape", "sync/atomic.LoadUint32", "(*internal/sync.Mutex).Lock", "internal/race.Disable", "sync/atomic.CompareAndSwapInt32", "internal/race.Enable", "internal/race.Acquire", "(*internal/sync.Mutex).lockSlow", "internal/sync.runtime_canSpin", "internal/sync.runtime_doSpin", "internal/sync.throw", "internal/sync.runtime_nanotime", "internal/sync.runtime_SemacquireMutex", "sync/atomic.AddInt32", "(*internal/sync.Mutex).Unlock", "internal/race.ReleaseMerge", "(*internal/sync.Mutex).unlockSlow", "internal/sync.fatal", "internal/sync.runtime_Semrelease", "sync/atomic.StoreUint32", "sync/atomic.AddUint64", "sync/atomic.SwapUint32", "sync/atomic.LoadUint64"], unfollowed := true, recurses := true, apart := false }
def EngineNoneSaid : Prop := engineNoneRow.holds Tryz.pinned (OpenSpec.ofChange engineNoneSpec)

/-- ITS FALSE NEIGHBOUR: 'it returns false'. Refute it at one input. -/
def engineNoneWrong : ChangeSpec := { name := "engineNone", fn := fun _ => fun
  | [d1, d2, d3, d4] => { results := [.lit (.bool false)], args := [d1, d2, d3, d4] }
  | _ => none }
def EngineNoneWrongFalsely : Prop := engineNoneRow.holds Tryz.pinned (OpenSpec.ofChange engineNoneWrong)

/-- 'retrogradelaw22.EnginePlays': WHATEVER THE INPUT: true; the input reads as it did. -/
def enginePlaysSpec : ChangeSpec := { name := "enginePlays", fn := fun _ => fun
  | [d1, d2, d3] => { results := [.lit (.bool true)], args := [d1, d2, d3] }
  | _ => none }
def enginePlaysRow : OpenClaim := { program := "ytacejanlmhbddaagreat", sum := "76c067f310f1d0d53e5886082fe6b61475f94acab0deb97f1f46e4685e788880", func := "retrograde/retrogradelaw22.EnginePlays", spec := "enginePlays", inPlace := ["internal/abi.NoEscape", "sync/atomic.LoadUint32", "(*internal/sync.Mutex).Lock", "internal/race.Disable", "sync/atomic.CompareAndSwapInt32", "internal/race.Enable", "internal/race.Acquire", "(*internal/sync.Mutex).lockSlow", "internal/sync.runtime_canSpin", "internal/sync.runtime_doSpin", "internal/sync.throw", "internal/sync.runtime_nanotime", "internal/sync.runtime_SemacquireMutex", "sync/atomic.AddInt32", "(*internal/sync.Mutex).Unlock", "internal/race.ReleaseMerge", "(*internal/sync.Mutex).unlockSlow", "internal/sync.fatal", "internal/sync.runtime_Semrelease", "sync/atomic.StoreUint32", "sync/atomic.AddUint64", "sync/atomic.SwapUint32"], unfollowed := true, recurses := true, apart := false }
def EnginePlaysSaid : Prop := enginePlaysRow.holds Tryz.pinned (OpenSpec.ofChange enginePlaysSpec)

/-- ITS FALSE NEIGHBOUR: 'it returns false'. Refute it at one input. -/
def enginePlaysWrong : ChangeSpec := { name := "enginePlays", fn := fun _ => fun
  | [d1, d2, d3] => { results := [.lit (.bool false)], args := [d1, d2, d3] }
  | _ => none }
def EnginePlaysWrongFalsely : Prop := enginePlaysRow.holds Tryz.pinned (OpenSpec.ofChange enginePlaysWrong)

/- THE SECOND FORM. 'bulk': how many values and letters a reading holds, each counted each time it is reached (what is shared counts as often as it is met; a slice's spare places count too). A statement '..UptoSaid' is the law's where the arguments, and the package variables that the reading takes, are together of bulk at most 1048576: NARROWER than '..Said'. Prove '..Said' where nothing that the law and all that it calls make is longer than what came in: it says more and counts as full. Else prove '..UptoSaid'. A law counts once. -/
mutual
def uptoBulk {H : Type} : DataW H → Nat
  | .lit (.string bytes) => bytes.length + 1
  | .lit _ => 1
  | .nil => 1
  | .ptr d => uptoBulk d + 1
  | .slice elems spare => uptoBulkAll elems + uptoBulkAll spare + 1
  | .agg parts => uptoBulkAll parts + 1
  | .iface _ d => uptoBulk d + 1
  | .map entries => uptoBulkEntries entries + 1
  | .held _ => 1
def uptoBulkAll {H : Type} : List (DataW H) → Nat
  | [] => 0
  | d :: r => uptoBulk d + uptoBulkAll r
def uptoBulkEntries {H : Type} : List (Lit × DataW H) → Nat
  | [] => 0
  | x :: r => uptoBulkEntry x + uptoBulkEntries r
def uptoBulkEntry {H : Type} : Lit × DataW H → Nat
  | (.string bytes, d) => bytes.length + uptoBulk d + 1
  | (_, d) => uptoBulk d + 1
 end
def uptoSmall : (H : Type) → List (DataW H) → Bool := fun _ ds => decide (uptoBulkAll ds ≤ 1048576)
def OpenSpec.upto (s : _root_.Go.ChangeSpec) : _root_.Go.OpenSpec := { _root_.Go.OpenSpec.ofChange s with cond := some uptoSmall }

/-- 'retrogradelaw22.EngineCosts', WHERE WHAT IT READS IS OF BULK AT MOST 1048576: true; the input reads as it did. -/
def engineCostsUptoRow : OpenClaim := { program := "ytacejanlmhbddaagreat", sum := "76c067f310f1d0d53e5886082fe6b61475f94acab0deb97f1f46e4685e788880", func := "retrograde/retrogradelaw22.EngineCosts", spec := "engineCosts", inPlace := ["internal/abi.NoEscape", "sync/atomic.LoadUint32", "(*internal/sync.Mutex).Lock", "internal/race.Disable", "sync/atomic.CompareAndSwapInt32", "internal/race.Enable", "internal/race.Acquire", "(*internal/sync.Mutex).lockSlow", "internal/sync.runtime_canSpin", "internal/sync.runtime_doSpin", "internal/sync.throw", "internal/sync.runtime_nanotime", "internal/sync.runtime_SemacquireMutex", "sync/atomic.AddInt32", "(*internal/sync.Mutex).Unlock", "internal/race.ReleaseMerge", "(*internal/sync.Mutex).unlockSlow", "internal/sync.fatal", "internal/sync.runtime_Semrelease", "sync/atomic.StoreUint32", "sync/atomic.AddUint64", "sync/atomic.LoadUint64"], unfollowed := true, recurses := true, apart := false, narrowed := true }
def EngineCostsUptoSaid : Prop := engineCostsUptoRow.holds Tryz.pinned (OpenSpec.upto engineCostsSpec)

/-- 'retrogradelaw22.EngineSeeks', WHERE WHAT IT READS IS OF BULK AT MOST 1048576: true; the input reads as it did. -/
def engineSeeksUptoRow : OpenClaim := { program := "ytacejanlmhbddaagreat", sum := "76c067f310f1d0d53e5886082fe6b61475f94acab0deb97f1f46e4685e788880", func := "retrograde/retrogradelaw22.EngineSeeks", spec := "engineSeeks", inPlace := ["internal/abi.NoEscape", "sync/atomic.LoadUint32", "(*internal/sync.Mutex).Lock", "internal/race.Disable", "sync/atomic.CompareAndSwapInt32", "internal/race.Enable", "internal/race.Acquire", "(*internal/sync.Mutex).lockSlow", "internal/sync.runtime_canSpin", "internal/sync.runtime_doSpin", "internal/sync.throw", "internal/sync.runtime_nanotime", "internal/sync.runtime_SemacquireMutex", "sync/atomic.AddInt32", "(*internal/sync.Mutex).Unlock", "internal/race.ReleaseMerge", "(*internal/sync.Mutex).unlockSlow", "internal/sync.fatal", "internal/sync.runtime_Semrelease", "sync/atomic.StoreUint32", "sync/atomic.AddUint64"], unfollowed := true, recurses := true, apart := false, narrowed := true }
def EngineSeeksUptoSaid : Prop := engineSeeksUptoRow.holds Tryz.pinned (OpenSpec.upto engineSeeksSpec)

/-- 'retrogradelaw22.EngineAsks', WHERE WHAT IT READS IS OF BULK AT MOST 1048576: true; the input reads as it did. -/
def engineAsksUptoRow : OpenClaim := { program := "ytacejanlmhbddaagreat", sum := "76c067f310f1d0d53e5886082fe6b61475f94acab0deb97f1f46e4685e788880", func := "retrograde/retrogradelaw22.EngineAsks", spec := "engineAsks", inPlace := ["internal/abi.NoEscape", "sync/atomic.LoadUint32", "(*internal/sync.Mutex).Lock", "internal/race.Disable", "sync/atomic.CompareAndSwapInt32", "internal/race.Enable", "internal/race.Acquire", "(*internal/sync.Mutex).lockSlow", "internal/sync.runtime_canSpin", "internal/sync.runtime_doSpin", "internal/sync.throw", "internal/sync.runtime_nanotime", "internal/sync.runtime_SemacquireMutex", "sync/atomic.AddInt32", "(*internal/sync.Mutex).Unlock", "internal/race.ReleaseMerge", "(*internal/sync.Mutex).unlockSlow", "internal/sync.fatal", "internal/sync.runtime_Semrelease", "sync/atomic.StoreUint32", "sync/atomic.AddUint64", "sync/atomic.SwapUint32", "sync/atomic.LoadUint64"], unfollowed := true, recurses := true, apart := false, narrowed := true }
def EngineAsksUptoSaid : Prop := engineAsksUptoRow.holds Tryz.pinned (OpenSpec.upto engineAsksSpec)

/-- 'retrogradelaw22.EngineReverses', WHERE WHAT IT READS IS OF BULK AT MOST 1048576: true; the input reads as it did. -/
def engineReversesUptoRow : OpenClaim := { program := "ytacejanlmhbddaagreat", sum := "76c067f310f1d0d53e5886082fe6b61475f94acab0deb97f1f46e4685e788880", func := "retrograde/retrogradelaw22.EngineReverses", spec := "engineReverses", inPlace := ["internal/abi.NoEscape", "sync/atomic.LoadUint32", "(*internal/sync.Mutex).Lock", "internal/race.Disable", "sync/atomic.CompareAndSwapInt32", "internal/race.Enable", "internal/race.Acquire", "(*internal/sync.Mutex).lockSlow", "internal/sync.runtime_canSpin", "internal/sync.runtime_doSpin", "internal/sync.throw", "internal/sync.runtime_nanotime", "internal/sync.runtime_SemacquireMutex", "sync/atomic.AddInt32", "(*internal/sync.Mutex).Unlock", "internal/race.ReleaseMerge", "(*internal/sync.Mutex).unlockSlow", "internal/sync.fatal", "internal/sync.runtime_Semrelease", "sync/atomic.StoreUint32", "sync/atomic.AddUint64", "sync/atomic.SwapUint32"], unfollowed := true, recurses := true, apart := false, narrowed := true }
def EngineReversesUptoSaid : Prop := engineReversesUptoRow.holds Tryz.pinned (OpenSpec.upto engineReversesSpec)

/-- 'retrogradelaw22.EngineNone', WHERE WHAT IT READS IS OF BULK AT MOST 1048576: true; the input reads as it did. -/
def engineNoneUptoRow : OpenClaim := { program := "ytacejanlmhbddaagreat", sum := "76c067f310f1d0d53e5886082fe6b61475f94acab0deb97f1f46e4685e788880", func := "retrograde/retrogradelaw22.EngineNone", spec := "engineNone", inPlace := ["internal/abi.NoEscape", "sync/atomic.LoadUint32", "(*internal/sync.Mutex).Lock", "internal/race.Disable", "sync/atomic.CompareAndSwapInt32", "internal/race.Enable", "internal/race.Acquire", "(*internal/sync.Mutex).lockSlow", "internal/sync.runtime_canSpin", "internal/sync.runtime_doSpin", "internal/sync.throw", "internal/sync.runtime_nanotime", "internal/sync.runtime_SemacquireMutex", "sync/atomic.AddInt32", "(*internal/sync.Mutex).Unlock", "internal/race.ReleaseMerge", "(*internal/sync.Mutex).unlockSlow", "internal/sync.fatal", "internal/sync.runtime_Semrelease", "sync/atomic.StoreUint32", "sync/atomic.AddUint64", "sync/atomic.SwapUint32", "sync/atomic.LoadUint64"], unfollowed := true, recurses := true, apart := false, narrowed := true }
def EngineNoneUptoSaid : Prop := engineNoneUptoRow.holds Tryz.pinned (OpenSpec.upto engineNoneSpec)

/-- 'retrogradelaw22.EnginePlays', WHERE WHAT IT READS IS OF BULK AT MOST 1048576: true; the input reads as it did. -/
def enginePlaysUptoRow : OpenClaim := { program := "ytacejanlmhbddaagreat", sum := "76c067f310f1d0d53e5886082fe6b61475f94acab0deb97f1f46e4685e788880", func := "retrograde/retrogradelaw22.EnginePlays", spec := "enginePlays", inPlace := ["internal/abi.NoEscape", "sync/atomic.LoadUint32", "(*internal/sync.Mutex).Lock", "internal/race.Disable", "sync/atomic.CompareAndSwapInt32", "internal/race.Enable", "internal/race.Acquire", "(*internal/sync.Mutex).lockSlow", "internal/sync.runtime_canSpin", "internal/sync.runtime_doSpin", "internal/sync.throw", "internal/sync.runtime_nanotime", "internal/sync.runtime_SemacquireMutex", "sync/atomic.AddInt32", "(*internal/sync.Mutex).Unlock", "internal/race.ReleaseMerge", "(*internal/sync.Mutex).unlockSlow", "internal/sync.fatal", "internal/sync.runtime_Semrelease", "sync/atomic.StoreUint32", "sync/atomic.AddUint64", "sync/atomic.SwapUint32"], unfollowed := true, recurses := true, apart := false, narrowed := true }
def EnginePlaysUptoSaid : Prop := enginePlaysUptoRow.holds Tryz.pinned (OpenSpec.upto enginePlaysSpec)

end Rows
end Go.Proofs.YtacejanlmhbddaaGreat
