/-
  No cell of these rows narrows 'for every input' (looked for: loops, veiled, ifaces, maps, wideKeys, modest, calm, conditions, laid).
  DERIVED. THE GIVEN ROWS OF THIS SEAT. 6 by the template 'for every input the law returns true; each argument reads behind the call as it read before'; 0 by the template 'total and deterministic' (their statements: YtkifhldkhemdlaaTotals.lean).
  GIVEN WITH THE SEED: the statements are not yours to turn. If you find one false, say at which input.
  Laid BY PROGRAM, IN A SANDBOX (cutbox-rows.mjs): the forced cells as the released guide's own fill.sh prints them over the translation 7b2d9acc5f92a230… (all of the seat's roots in one cut). By AI agents, Wed Nov 11 2026. No macro, syntax, notation, axiom, sorry.
-/
import Derived.Test.YtkifhldkhemdlaaChecked
import GoSem.Claim
import GoSem.ClaimJoined
import GoSem.ClaimMapViews
import Derived.JoinedTies
import Derived.KernelRfl
namespace Go.Proofs.Ytkifhldkhemdlaa
/- THE CELL 'sum', in the pinned program and in every row, IS THE sha256 OF THE DUMP (.gsa) THAT YtkifhldkhemdlaaProg.lean LOADS. Nothing in Lean hashes anything: it is a label: what it is worth is what the hold of that sum in a sandbox is worth. -/
noncomputable def Try.pinned : Pinned := { name := "ytkifhldkhemdlaa", sum := "7b2d9acc5f92a230afba09ce23f6c8b329795c9c998aae8c6f1111fe1985bfbd", checked := Try.checked }
namespace Rows
def none {H : Type} : Left H := { results := [], args := [] }

/-- 'retrogradelaw20.TimesBytes': WHATEVER THE INPUT: true; the input reads as it did. -/
def timesBytesSpec : ChangeSpec := { name := "timesBytes", fn := fun _ => fun
  | [d1, d2, d3] => { results := [.lit (.bool true)], args := [d1, d2, d3] }
  | _ => none }
def timesBytesRow : OpenClaim := { program := "ytkifhldkhemdlaa", sum := "7b2d9acc5f92a230afba09ce23f6c8b329795c9c998aae8c6f1111fe1985bfbd", func := "retrograde/retrogradelaw20.TimesBytes", spec := "timesBytes", unfollowed := true, recurses := true, apart := false }
def TimesBytesSaid : Prop := timesBytesRow.holds Try.pinned (OpenSpec.ofChange timesBytesSpec)

/-- ITS FALSE NEIGHBOUR: 'it returns false'. Refute it at one input. -/
def timesBytesWrong : ChangeSpec := { name := "timesBytes", fn := fun _ => fun
  | [d1, d2, d3] => { results := [.lit (.bool false)], args := [d1, d2, d3] }
  | _ => none }
def TimesBytesWrongFalsely : Prop := timesBytesRow.holds Try.pinned (OpenSpec.ofChange timesBytesWrong)

/-- 'retrogradelaw20.TimesCaps': WHATEVER THE INPUT: true; the input reads as it did. -/
def timesCapsSpec : ChangeSpec := { name := "timesCaps", fn := fun _ => fun
  | [d1, d2] => { results := [.lit (.bool true)], args := [d1, d2] }
  | _ => none }
def timesCapsRow : OpenClaim := { program := "ytkifhldkhemdlaa", sum := "7b2d9acc5f92a230afba09ce23f6c8b329795c9c998aae8c6f1111fe1985bfbd", func := "retrograde/retrogradelaw20.TimesCaps", spec := "timesCaps", unfollowed := true, recurses := true, apart := false }
def TimesCapsSaid : Prop := timesCapsRow.holds Try.pinned (OpenSpec.ofChange timesCapsSpec)

/-- ITS FALSE NEIGHBOUR: 'it returns false'. Refute it at one input. -/
def timesCapsWrong : ChangeSpec := { name := "timesCaps", fn := fun _ => fun
  | [d1, d2] => { results := [.lit (.bool false)], args := [d1, d2] }
  | _ => none }
def TimesCapsWrongFalsely : Prop := timesCapsRow.holds Try.pinned (OpenSpec.ofChange timesCapsWrong)

/-- 'retrogradelaw20.TimesRises': WHATEVER THE INPUT: true; the input reads as it did. -/
def timesRisesSpec : ChangeSpec := { name := "timesRises", fn := fun _ => fun
  | [d1, d2, d3, d4] => { results := [.lit (.bool true)], args := [d1, d2, d3, d4] }
  | _ => none }
def timesRisesRow : OpenClaim := { program := "ytkifhldkhemdlaa", sum := "7b2d9acc5f92a230afba09ce23f6c8b329795c9c998aae8c6f1111fe1985bfbd", func := "retrograde/retrogradelaw20.TimesRises", spec := "timesRises", unfollowed := true, recurses := true, apart := false }
def TimesRisesSaid : Prop := timesRisesRow.holds Try.pinned (OpenSpec.ofChange timesRisesSpec)

/-- ITS FALSE NEIGHBOUR: 'it returns false'. Refute it at one input. -/
def timesRisesWrong : ChangeSpec := { name := "timesRises", fn := fun _ => fun
  | [d1, d2, d3, d4] => { results := [.lit (.bool false)], args := [d1, d2, d3, d4] }
  | _ => none }
def TimesRisesWrongFalsely : Prop := timesRisesRow.holds Try.pinned (OpenSpec.ofChange timesRisesWrong)

/-- 'retrogradelaw20.TimesPlays': WHATEVER THE INPUT: true; the input reads as it did. -/
def timesPlaysSpec : ChangeSpec := { name := "timesPlays", fn := fun _ => fun
  | [d1, d2, d3] => { results := [.lit (.bool true)], args := [d1, d2, d3] }
  | _ => none }
def timesPlaysRow : OpenClaim := { program := "ytkifhldkhemdlaa", sum := "7b2d9acc5f92a230afba09ce23f6c8b329795c9c998aae8c6f1111fe1985bfbd", func := "retrograde/retrogradelaw20.TimesPlays", spec := "timesPlays", unfollowed := true, recurses := true, apart := false }
def TimesPlaysSaid : Prop := timesPlaysRow.holds Try.pinned (OpenSpec.ofChange timesPlaysSpec)

/-- ITS FALSE NEIGHBOUR: 'it returns false'. Refute it at one input. -/
def timesPlaysWrong : ChangeSpec := { name := "timesPlays", fn := fun _ => fun
  | [d1, d2, d3] => { results := [.lit (.bool false)], args := [d1, d2, d3] }
  | _ => none }
def TimesPlaysWrongFalsely : Prop := timesPlaysRow.holds Try.pinned (OpenSpec.ofChange timesPlaysWrong)

/-- 'retrogradelaw20.TimesCosts': WHATEVER THE INPUT: true; the input reads as it did. -/
def timesCostsSpec : ChangeSpec := { name := "timesCosts", fn := fun _ => fun
  | [d1, d2] => { results := [.lit (.bool true)], args := [d1, d2] }
  | _ => none }
def timesCostsRow : OpenClaim := { program := "ytkifhldkhemdlaa", sum := "7b2d9acc5f92a230afba09ce23f6c8b329795c9c998aae8c6f1111fe1985bfbd", func := "retrograde/retrogradelaw20.TimesCosts", spec := "timesCosts", unfollowed := true, recurses := true, apart := false }
def TimesCostsSaid : Prop := timesCostsRow.holds Try.pinned (OpenSpec.ofChange timesCostsSpec)

/-- ITS FALSE NEIGHBOUR: 'it returns false'. Refute it at one input. -/
def timesCostsWrong : ChangeSpec := { name := "timesCosts", fn := fun _ => fun
  | [d1, d2] => { results := [.lit (.bool false)], args := [d1, d2] }
  | _ => none }
def TimesCostsWrongFalsely : Prop := timesCostsRow.holds Try.pinned (OpenSpec.ofChange timesCostsWrong)

/-- 'retrogradelaw20.TimesNil': WHATEVER THE INPUT: true; the input reads as it did. -/
def timesNilSpec : ChangeSpec := { name := "timesNil", fn := fun _ => fun
  | [d1, d2] => { results := [.lit (.bool true)], args := [d1, d2] }
  | _ => none }
def timesNilRow : OpenClaim := { program := "ytkifhldkhemdlaa", sum := "7b2d9acc5f92a230afba09ce23f6c8b329795c9c998aae8c6f1111fe1985bfbd", func := "retrograde/retrogradelaw20.TimesNil", spec := "timesNil", unfollowed := true, recurses := true, apart := false }
def TimesNilSaid : Prop := timesNilRow.holds Try.pinned (OpenSpec.ofChange timesNilSpec)

/-- ITS FALSE NEIGHBOUR: 'it returns false'. Refute it at one input. -/
def timesNilWrong : ChangeSpec := { name := "timesNil", fn := fun _ => fun
  | [d1, d2] => { results := [.lit (.bool false)], args := [d1, d2] }
  | _ => none }
def TimesNilWrongFalsely : Prop := timesNilRow.holds Try.pinned (OpenSpec.ofChange timesNilWrong)

/- THE SECOND FORM. 'bulk': how many values and letters a reading holds, each counted each time it is reached (what is shared counts as often as it is met; a slice's spare places count too). A statement '..UptoSaid' is the law's where the arguments, and the package variables that the reading takes, are together of bulk at most 1048576: NARROWER than '..Said'. Prove '..Said' where nothing that the law and all that it calls make is longer than what came in: it says more and counts as full. Else prove '..UptoSaid'. A law counts once. -/
mutual
def uptoBulk {H : Type} : DataW H → Nat
  | .lit (.string bytes) => bytes.length + 1
  | .lit _ => 1
  | .nil => 1
  | .ptr d => uptoBulk d + 1
  | .slice elems spare => uptoBulkAll elems + uptoBulkAll spare + 1
  | .agg parts => uptoBulkAll parts + 1
  | .iface _ d => uptoBulk d + 1
  | .map entries => uptoBulkEntries entries + 1
  | .held _ => 1
def uptoBulkAll {H : Type} : List (DataW H) → Nat
  | [] => 0
  | d :: r => uptoBulk d + uptoBulkAll r
def uptoBulkEntries {H : Type} : List (Lit × DataW H) → Nat
  | [] => 0
  | x :: r => uptoBulkEntry x + uptoBulkEntries r
def uptoBulkEntry {H : Type} : Lit × DataW H → Nat
  | (.string bytes, d) => bytes.length + uptoBulk d + 1
  | (_, d) => uptoBulk d + 1
 end
def uptoSmall : (H : Type) → List (DataW H) → Bool := fun _ ds => decide (uptoBulkAll ds ≤ 1048576)
def OpenSpec.upto (s : _root_.Go.ChangeSpec) : _root_.Go.OpenSpec := { _root_.Go.OpenSpec.ofChange s with cond := some uptoSmall }

/-- 'retrogradelaw20.TimesBytes', WHERE WHAT IT READS IS OF BULK AT MOST 1048576: true; the input reads as it did. -/
def timesBytesUptoRow : OpenClaim := { program := "ytkifhldkhemdlaa", sum := "7b2d9acc5f92a230afba09ce23f6c8b329795c9c998aae8c6f1111fe1985bfbd", func := "retrograde/retrogradelaw20.TimesBytes", spec := "timesBytes", unfollowed := true, recurses := true, apart := false, narrowed := true }
def TimesBytesUptoSaid : Prop := timesBytesUptoRow.holds Try.pinned (OpenSpec.upto timesBytesSpec)

/-- 'retrogradelaw20.TimesCaps', WHERE WHAT IT READS IS OF BULK AT MOST 1048576: true; the input reads as it did. -/
def timesCapsUptoRow : OpenClaim := { program := "ytkifhldkhemdlaa", sum := "7b2d9acc5f92a230afba09ce23f6c8b329795c9c998aae8c6f1111fe1985bfbd", func := "retrograde/retrogradelaw20.TimesCaps", spec := "timesCaps", unfollowed := true, recurses := true, apart := false, narrowed := true }
def TimesCapsUptoSaid : Prop := timesCapsUptoRow.holds Try.pinned (OpenSpec.upto timesCapsSpec)

/-- 'retrogradelaw20.TimesRises', WHERE WHAT IT READS IS OF BULK AT MOST 1048576: true; the input reads as it did. -/
def timesRisesUptoRow : OpenClaim := { program := "ytkifhldkhemdlaa", sum := "7b2d9acc5f92a230afba09ce23f6c8b329795c9c998aae8c6f1111fe1985bfbd", func := "retrograde/retrogradelaw20.TimesRises", spec := "timesRises", unfollowed := true, recurses := true, apart := false, narrowed := true }
def TimesRisesUptoSaid : Prop := timesRisesUptoRow.holds Try.pinned (OpenSpec.upto timesRisesSpec)

/-- 'retrogradelaw20.TimesPlays', WHERE WHAT IT READS IS OF BULK AT MOST 1048576: true; the input reads as it did. -/
def timesPlaysUptoRow : OpenClaim := { program := "ytkifhldkhemdlaa", sum := "7b2d9acc5f92a230afba09ce23f6c8b329795c9c998aae8c6f1111fe1985bfbd", func := "retrograde/retrogradelaw20.TimesPlays", spec := "timesPlays", unfollowed := true, recurses := true, apart := false, narrowed := true }
def TimesPlaysUptoSaid : Prop := timesPlaysUptoRow.holds Try.pinned (OpenSpec.upto timesPlaysSpec)

/-- 'retrogradelaw20.TimesCosts', WHERE WHAT IT READS IS OF BULK AT MOST 1048576: true; the input reads as it did. -/
def timesCostsUptoRow : OpenClaim := { program := "ytkifhldkhemdlaa", sum := "7b2d9acc5f92a230afba09ce23f6c8b329795c9c998aae8c6f1111fe1985bfbd", func := "retrograde/retrogradelaw20.TimesCosts", spec := "timesCosts", unfollowed := true, recurses := true, apart := false, narrowed := true }
def TimesCostsUptoSaid : Prop := timesCostsUptoRow.holds Try.pinned (OpenSpec.upto timesCostsSpec)

/-- 'retrogradelaw20.TimesNil', WHERE WHAT IT READS IS OF BULK AT MOST 1048576: true; the input reads as it did. -/
def timesNilUptoRow : OpenClaim := { program := "ytkifhldkhemdlaa", sum := "7b2d9acc5f92a230afba09ce23f6c8b329795c9c998aae8c6f1111fe1985bfbd", func := "retrograde/retrogradelaw20.TimesNil", spec := "timesNil", unfollowed := true, recurses := true, apart := false, narrowed := true }
def TimesNilUptoSaid : Prop := timesNilUptoRow.holds Try.pinned (OpenSpec.upto timesNilSpec)

end Rows
end Go.Proofs.Ytkifhldkhemdlaa
