/-
  No cell of these rows narrows 'for every input' (looked for: loops, veiled, ifaces, maps, wideKeys, modest, calm, conditions, laid).
  DERIVED. THE GIVEN ROWS OF THIS SEAT. 6 by the template 'for every input the law returns true; each argument reads behind the call as it read before'; 0 by the template 'total and deterministic' (their statements: YtmafgccagaihbaaTotals.lean).
  GIVEN WITH THE SEED: the statements are not yours to turn. If you find one false, say at which input.
  Laid BY PROGRAM, IN A SANDBOX (cutbox-rows.mjs): the forced cells as the released guide's own fill.sh prints them over the translation c47a51dc7bec72fd… (all of the seat's roots in one cut). By AI agents, Wed Nov 11 2026. No macro, syntax, notation, axiom, sorry.
-/
import Derived.Test.YtmafgccagaihbaaChecked
import GoSem.Claim
import GoSem.ClaimJoined
import GoSem.ClaimMapViews
import Derived.JoinedTies
import Derived.KernelRfl
namespace Go.Proofs.Ytmafgccagaihbaa
/- THE CELL 'sum', in the pinned program and in every row, IS THE sha256 OF THE DUMP (.gsa) THAT YtmafgccagaihbaaProg.lean LOADS. Nothing in Lean hashes anything: it is a label: what it is worth is what the hold of that sum in a sandbox is worth. -/
noncomputable def Try.pinned : Pinned := { name := "ytmafgccagaihbaa", sum := "c47a51dc7bec72fd2775d4e5dd87c0d6cdc3a0d1850a0a13e31364fd87048368", checked := Try.checked }
namespace Rows
def none {H : Type} : Left H := { results := [], args := [] }

/-- 'retrogradelaw21.HistoryDeep': WHATEVER THE INPUT: true; the input reads as it did. -/
def historyDeepSpec : ChangeSpec := { name := "historyDeep", fn := fun _ => fun
  | [d1, d2] => { results := [.lit (.bool true)], args := [d1, d2] }
  | _ => none }
def historyDeepRow : OpenClaim := { program := "ytmafgccagaihbaa", sum := "c47a51dc7bec72fd2775d4e5dd87c0d6cdc3a0d1850a0a13e31364fd87048368", func := "retrograde/retrogradelaw21.HistoryDeep", spec := "historyDeep", inPlace := ["slices.overlaps[retrograde/history.named]"], unfollowed := true, recurses := true, apart := false }
def HistoryDeepSaid : Prop := historyDeepRow.holds Try.pinned (OpenSpec.ofChange historyDeepSpec)

/-- ITS FALSE NEIGHBOUR: 'it returns false'. Refute it at one input. -/
def historyDeepWrong : ChangeSpec := { name := "historyDeep", fn := fun _ => fun
  | [d1, d2] => { results := [.lit (.bool false)], args := [d1, d2] }
  | _ => none }
def HistoryDeepWrongFalsely : Prop := historyDeepRow.holds Try.pinned (OpenSpec.ofChange historyDeepWrong)

/-- 'retrogradelaw21.HistoryBalance': WHATEVER THE INPUT: true; the input reads as it did. -/
def historyBalanceSpec : ChangeSpec := { name := "historyBalance", fn := fun _ => fun
  | [d1, d2, d3] => { results := [.lit (.bool true)], args := [d1, d2, d3] }
  | _ => none }
def historyBalanceRow : OpenClaim := { program := "ytmafgccagaihbaa", sum := "c47a51dc7bec72fd2775d4e5dd87c0d6cdc3a0d1850a0a13e31364fd87048368", func := "retrograde/retrogradelaw21.HistoryBalance", spec := "historyBalance", inPlace := ["slices.overlaps[retrograde/history.named]"], unfollowed := true, recurses := true, apart := false }
def HistoryBalanceSaid : Prop := historyBalanceRow.holds Try.pinned (OpenSpec.ofChange historyBalanceSpec)

/-- ITS FALSE NEIGHBOUR: 'it returns false'. Refute it at one input. -/
def historyBalanceWrong : ChangeSpec := { name := "historyBalance", fn := fun _ => fun
  | [d1, d2, d3] => { results := [.lit (.bool false)], args := [d1, d2, d3] }
  | _ => none }
def HistoryBalanceWrongFalsely : Prop := historyBalanceRow.holds Try.pinned (OpenSpec.ofChange historyBalanceWrong)

/-- 'retrogradelaw21.HistoryNotes': WHATEVER THE INPUT: true; the input reads as it did. -/
def historyNotesSpec : ChangeSpec := { name := "historyNotes", fn := fun _ => fun
  | [d1, d2, d3] => { results := [.lit (.bool true)], args := [d1, d2, d3] }
  | _ => none }
def historyNotesRow : OpenClaim := { program := "ytmafgccagaihbaa", sum := "c47a51dc7bec72fd2775d4e5dd87c0d6cdc3a0d1850a0a13e31364fd87048368", func := "retrograde/retrogradelaw21.HistoryNotes", spec := "historyNotes", inPlace := ["slices.overlaps[retrograde/history.named]"], unfollowed := true, recurses := true, apart := false }
def HistoryNotesSaid : Prop := historyNotesRow.holds Try.pinned (OpenSpec.ofChange historyNotesSpec)

/-- ITS FALSE NEIGHBOUR: 'it returns false'. Refute it at one input. -/
def historyNotesWrong : ChangeSpec := { name := "historyNotes", fn := fun _ => fun
  | [d1, d2, d3] => { results := [.lit (.bool false)], args := [d1, d2, d3] }
  | _ => none }
def HistoryNotesWrongFalsely : Prop := historyNotesRow.holds Try.pinned (OpenSpec.ofChange historyNotesWrong)

/-- 'retrogradelaw21.HistoryNames': WHATEVER THE INPUT: true; the input reads as it did. -/
def historyNamesSpec : ChangeSpec := { name := "historyNames", fn := fun _ => fun
  | [d1, d2, d3] => { results := [.lit (.bool true)], args := [d1, d2, d3] }
  | _ => none }
def historyNamesRow : OpenClaim := { program := "ytmafgccagaihbaa", sum := "c47a51dc7bec72fd2775d4e5dd87c0d6cdc3a0d1850a0a13e31364fd87048368", func := "retrograde/retrogradelaw21.HistoryNames", spec := "historyNames", inPlace := ["slices.overlaps[retrograde/history.named]"], unfollowed := true, recurses := true, apart := false }
def HistoryNamesSaid : Prop := historyNamesRow.holds Try.pinned (OpenSpec.ofChange historyNamesSpec)

/-- ITS FALSE NEIGHBOUR: 'it returns false'. Refute it at one input. -/
def historyNamesWrong : ChangeSpec := { name := "historyNames", fn := fun _ => fun
  | [d1, d2, d3] => { results := [.lit (.bool false)], args := [d1, d2, d3] }
  | _ => none }
def HistoryNamesWrongFalsely : Prop := historyNamesRow.holds Try.pinned (OpenSpec.ofChange historyNamesWrong)

/-- 'retrogradelaw21.HistoryNear': WHATEVER THE INPUT: true; the input reads as it did. -/
def historyNearSpec : ChangeSpec := { name := "historyNear", fn := fun _ => fun
  | [d1, d2, d3, d4] => { results := [.lit (.bool true)], args := [d1, d2, d3, d4] }
  | _ => none }
def historyNearRow : OpenClaim := { program := "ytmafgccagaihbaa", sum := "c47a51dc7bec72fd2775d4e5dd87c0d6cdc3a0d1850a0a13e31364fd87048368", func := "retrograde/retrogradelaw21.HistoryNear", spec := "historyNear", inPlace := ["slices.overlaps[retrograde/history.named]"], unfollowed := true, recurses := true, apart := false }
def HistoryNearSaid : Prop := historyNearRow.holds Try.pinned (OpenSpec.ofChange historyNearSpec)

/-- ITS FALSE NEIGHBOUR: 'it returns false'. Refute it at one input. -/
def historyNearWrong : ChangeSpec := { name := "historyNear", fn := fun _ => fun
  | [d1, d2, d3, d4] => { results := [.lit (.bool false)], args := [d1, d2, d3, d4] }
  | _ => none }
def HistoryNearWrongFalsely : Prop := historyNearRow.holds Try.pinned (OpenSpec.ofChange historyNearWrong)

/-- 'retrogradelaw21.HistoryCopies': WHATEVER THE INPUT: true; the input reads as it did. -/
def historyCopiesSpec : ChangeSpec := { name := "historyCopies", fn := fun _ => fun
  | [d1, d2, d3] => { results := [.lit (.bool true)], args := [d1, d2, d3] }
  | _ => none }
def historyCopiesRow : OpenClaim := { program := "ytmafgccagaihbaa", sum := "c47a51dc7bec72fd2775d4e5dd87c0d6cdc3a0d1850a0a13e31364fd87048368", func := "retrograde/retrogradelaw21.HistoryCopies", spec := "historyCopies", inPlace := ["slices.overlaps[retrograde/history.named]"], unfollowed := true, recurses := true, apart := false }
def HistoryCopiesSaid : Prop := historyCopiesRow.holds Try.pinned (OpenSpec.ofChange historyCopiesSpec)

/-- ITS FALSE NEIGHBOUR: 'it returns false'. Refute it at one input. -/
def historyCopiesWrong : ChangeSpec := { name := "historyCopies", fn := fun _ => fun
  | [d1, d2, d3] => { results := [.lit (.bool false)], args := [d1, d2, d3] }
  | _ => none }
def HistoryCopiesWrongFalsely : Prop := historyCopiesRow.holds Try.pinned (OpenSpec.ofChange historyCopiesWrong)

/- THE SECOND FORM. 'bulk': how many values and letters a reading holds, each counted each time it is reached (what is shared counts as often as it is met; a slice's spare places count too). A statement '..UptoSaid' is the law's where the arguments, and the package variables that the reading takes, are together of bulk at most 1048576: NARROWER than '..Said'. Prove '..Said' where nothing that the law and all that it calls make is longer than what came in: it says more and counts as full. Else prove '..UptoSaid'. A law counts once. -/
mutual
def uptoBulk {H : Type} : DataW H → Nat
  | .lit (.string bytes) => bytes.length + 1
  | .lit _ => 1
  | .nil => 1
  | .ptr d => uptoBulk d + 1
  | .slice elems spare => uptoBulkAll elems + uptoBulkAll spare + 1
  | .agg parts => uptoBulkAll parts + 1
  | .iface _ d => uptoBulk d + 1
  | .map entries => uptoBulkEntries entries + 1
  | .held _ => 1
def uptoBulkAll {H : Type} : List (DataW H) → Nat
  | [] => 0
  | d :: r => uptoBulk d + uptoBulkAll r
def uptoBulkEntries {H : Type} : List (Lit × DataW H) → Nat
  | [] => 0
  | x :: r => uptoBulkEntry x + uptoBulkEntries r
def uptoBulkEntry {H : Type} : Lit × DataW H → Nat
  | (.string bytes, d) => bytes.length + uptoBulk d + 1
  | (_, d) => uptoBulk d + 1
 end
def uptoSmall : (H : Type) → List (DataW H) → Bool := fun _ ds => decide (uptoBulkAll ds ≤ 1048576)
def OpenSpec.upto (s : _root_.Go.ChangeSpec) : _root_.Go.OpenSpec := { _root_.Go.OpenSpec.ofChange s with cond := some uptoSmall }

/-- 'retrogradelaw21.HistoryDeep', WHERE WHAT IT READS IS OF BULK AT MOST 1048576: true; the input reads as it did. -/
def historyDeepUptoRow : OpenClaim := { program := "ytmafgccagaihbaa", sum := "c47a51dc7bec72fd2775d4e5dd87c0d6cdc3a0d1850a0a13e31364fd87048368", func := "retrograde/retrogradelaw21.HistoryDeep", spec := "historyDeep", inPlace := ["slices.overlaps[retrograde/history.named]"], unfollowed := true, recurses := true, apart := false, narrowed := true }
def HistoryDeepUptoSaid : Prop := historyDeepUptoRow.holds Try.pinned (OpenSpec.upto historyDeepSpec)

/-- 'retrogradelaw21.HistoryBalance', WHERE WHAT IT READS IS OF BULK AT MOST 1048576: true; the input reads as it did. -/
def historyBalanceUptoRow : OpenClaim := { program := "ytmafgccagaihbaa", sum := "c47a51dc7bec72fd2775d4e5dd87c0d6cdc3a0d1850a0a13e31364fd87048368", func := "retrograde/retrogradelaw21.HistoryBalance", spec := "historyBalance", inPlace := ["slices.overlaps[retrograde/history.named]"], unfollowed := true, recurses := true, apart := false, narrowed := true }
def HistoryBalanceUptoSaid : Prop := historyBalanceUptoRow.holds Try.pinned (OpenSpec.upto historyBalanceSpec)

/-- 'retrogradelaw21.HistoryNotes', WHERE WHAT IT READS IS OF BULK AT MOST 1048576: true; the input reads as it did. -/
def historyNotesUptoRow : OpenClaim := { program := "ytmafgccagaihbaa", sum := "c47a51dc7bec72fd2775d4e5dd87c0d6cdc3a0d1850a0a13e31364fd87048368", func := "retrograde/retrogradelaw21.HistoryNotes", spec := "historyNotes", inPlace := ["slices.overlaps[retrograde/history.named]"], unfollowed := true, recurses := true, apart := false, narrowed := true }
def HistoryNotesUptoSaid : Prop := historyNotesUptoRow.holds Try.pinned (OpenSpec.upto historyNotesSpec)

/-- 'retrogradelaw21.HistoryNames', WHERE WHAT IT READS IS OF BULK AT MOST 1048576: true; the input reads as it did. -/
def historyNamesUptoRow : OpenClaim := { program := "ytmafgccagaihbaa", sum := "c47a51dc7bec72fd2775d4e5dd87c0d6cdc3a0d1850a0a13e31364fd87048368", func := "retrograde/retrogradelaw21.HistoryNames", spec := "historyNames", inPlace := ["slices.overlaps[retrograde/history.named]"], unfollowed := true, recurses := true, apart := false, narrowed := true }
def HistoryNamesUptoSaid : Prop := historyNamesUptoRow.holds Try.pinned (OpenSpec.upto historyNamesSpec)

/-- 'retrogradelaw21.HistoryNear', WHERE WHAT IT READS IS OF BULK AT MOST 1048576: true; the input reads as it did. -/
def historyNearUptoRow : OpenClaim := { program := "ytmafgccagaihbaa", sum := "c47a51dc7bec72fd2775d4e5dd87c0d6cdc3a0d1850a0a13e31364fd87048368", func := "retrograde/retrogradelaw21.HistoryNear", spec := "historyNear", inPlace := ["slices.overlaps[retrograde/history.named]"], unfollowed := true, recurses := true, apart := false, narrowed := true }
def HistoryNearUptoSaid : Prop := historyNearUptoRow.holds Try.pinned (OpenSpec.upto historyNearSpec)

/-- 'retrogradelaw21.HistoryCopies', WHERE WHAT IT READS IS OF BULK AT MOST 1048576: true; the input reads as it did. -/
def historyCopiesUptoRow : OpenClaim := { program := "ytmafgccagaihbaa", sum := "c47a51dc7bec72fd2775d4e5dd87c0d6cdc3a0d1850a0a13e31364fd87048368", func := "retrograde/retrogradelaw21.HistoryCopies", spec := "historyCopies", inPlace := ["slices.overlaps[retrograde/history.named]"], unfollowed := true, recurses := true, apart := false, narrowed := true }
def HistoryCopiesUptoSaid : Prop := historyCopiesUptoRow.holds Try.pinned (OpenSpec.upto historyCopiesSpec)

end Rows
end Go.Proofs.Ytmafgccagaihbaa
