/-
  NARROWER THAN 'FOR EVERY INPUT', by the rows' own cells (each row's printed sentence says how): BuildDoes: loops · BuildShapes: loops · BuildEnds: loops · BuildReads: loops · BuildTwo: loops · BuildRuns: loops.
  DERIVED. THE GIVEN ROWS OF THIS SEAT. 9 by the template 'for every input the law returns true; each argument reads behind the call as it read before'; 0 by the template 'total and deterministic' (their statements: YtmfihmkopmgelaaTotals.lean).
  GIVEN WITH THE SEED: the statements are not yours to turn. If you find one false, say at which input.
  Laid BY PROGRAM, IN A SANDBOX (cutbox-rows.mjs): the forced cells as the released guide's own fill.sh prints them over the translation b856a64e40e5b6dc… (all of the seat's roots in one cut). By AI agents, Wed Nov 11 2026. No macro, syntax, notation, axiom, sorry.
-/
import Derived.Test.YtmfihmkopmgelaaChecked
import GoSem.Claim
import GoSem.ClaimJoined
import GoSem.ClaimMapViews
import Derived.JoinedTies
import Derived.KernelRfl
namespace Go.Proofs.Ytmfihmkopmgelaa
/- THE CELL 'sum', in the pinned program and in every row, IS THE sha256 OF THE DUMP (.gsa) THAT YtmfihmkopmgelaaProg.lean LOADS. Nothing in Lean hashes anything: it is a label: what it is worth is what the hold of that sum in a sandbox is worth. -/
noncomputable def Try.pinned : Pinned := { name := "ytmfihmkopmgelaa", sum := "b856a64e40e5b6dc438a39dda213b8c2002d06af0a003d2ac3dae0b03f6dbe20", checked := Try.checked }
namespace Rows
def none {H : Type} : Left H := { results := [], args := [] }

/-- 'seedcornlaw25.BuildDoes': WHATEVER THE INPUT: true; the input reads as it did. -/
def buildDoesSpec : ChangeSpec := { name := "buildDoes", fn := fun _ => fun
  | [d1, d2, d3] => { results := [.lit (.bool true)], args := [d1, d2, d3] }
  | _ => none }
def buildDoesRow : OpenClaim := { program := "ytmfihmkopmgelaa", sum := "b856a64e40e5b6dc438a39dda213b8c2002d06af0a003d2ac3dae0b03f6dbe20", func := "seedcorn/seedcornlaw25.BuildDoes", spec := "buildDoes", unfollowed := true, recurses := true, loops := true, apart := false }
def BuildDoesSaid : Prop := buildDoesRow.holds Try.pinned (OpenSpec.ofChange buildDoesSpec)

/-- ITS FALSE NEIGHBOUR: 'it returns false'. Refute it at one input. -/
def buildDoesWrong : ChangeSpec := { name := "buildDoes", fn := fun _ => fun
  | [d1, d2, d3] => { results := [.lit (.bool false)], args := [d1, d2, d3] }
  | _ => none }
def BuildDoesWrongFalsely : Prop := buildDoesRow.holds Try.pinned (OpenSpec.ofChange buildDoesWrong)

/-- 'seedcornlaw25.BuildShapes': WHATEVER THE INPUT: true; the input reads as it did. -/
def buildShapesSpec : ChangeSpec := { name := "buildShapes", fn := fun _ => fun
  | [d] => { results := [.lit (.bool true)], args := [d] }
  | _ => none }
def buildShapesRow : OpenClaim := { program := "ytmfihmkopmgelaa", sum := "b856a64e40e5b6dc438a39dda213b8c2002d06af0a003d2ac3dae0b03f6dbe20", func := "seedcorn/seedcornlaw25.BuildShapes", spec := "buildShapes", unfollowed := true, recurses := true, loops := true, apart := false }
def BuildShapesSaid : Prop := buildShapesRow.holds Try.pinned (OpenSpec.ofChange buildShapesSpec)

/-- ITS FALSE NEIGHBOUR: 'it returns false'. Refute it at one input. -/
def buildShapesWrong : ChangeSpec := { name := "buildShapes", fn := fun _ => fun
  | [d] => { results := [.lit (.bool false)], args := [d] }
  | _ => none }
def BuildShapesWrongFalsely : Prop := buildShapesRow.holds Try.pinned (OpenSpec.ofChange buildShapesWrong)

/-- 'seedcornlaw25.BuildIdle': WHATEVER THE INPUT: true; the input reads as it did. -/
def buildIdleSpec : ChangeSpec := { name := "buildIdle", fn := fun _ => fun
  | [d1, d2, d3] => { results := [.lit (.bool true)], args := [d1, d2, d3] }
  | _ => none }
def buildIdleRow : OpenClaim := { program := "ytmfihmkopmgelaa", sum := "b856a64e40e5b6dc438a39dda213b8c2002d06af0a003d2ac3dae0b03f6dbe20", func := "seedcorn/seedcornlaw25.BuildIdle", spec := "buildIdle", unfollowed := true, recurses := true, apart := false }
def BuildIdleSaid : Prop := buildIdleRow.holds Try.pinned (OpenSpec.ofChange buildIdleSpec)

/-- ITS FALSE NEIGHBOUR: 'it returns false'. Refute it at one input. -/
def buildIdleWrong : ChangeSpec := { name := "buildIdle", fn := fun _ => fun
  | [d1, d2, d3] => { results := [.lit (.bool false)], args := [d1, d2, d3] }
  | _ => none }
def BuildIdleWrongFalsely : Prop := buildIdleRow.holds Try.pinned (OpenSpec.ofChange buildIdleWrong)

/-- 'seedcornlaw25.BuildLocals': WHATEVER THE INPUT: true; the input reads as it did. -/
def buildLocalsSpec : ChangeSpec := { name := "buildLocals", fn := fun _ => fun
  | [d1, d2] => { results := [.lit (.bool true)], args := [d1, d2] }
  | _ => none }
def buildLocalsRow : OpenClaim := { program := "ytmfihmkopmgelaa", sum := "b856a64e40e5b6dc438a39dda213b8c2002d06af0a003d2ac3dae0b03f6dbe20", func := "seedcorn/seedcornlaw25.BuildLocals", spec := "buildLocals", unfollowed := true, recurses := true, apart := false }
def BuildLocalsSaid : Prop := buildLocalsRow.holds Try.pinned (OpenSpec.ofChange buildLocalsSpec)

/-- ITS FALSE NEIGHBOUR: 'it returns false'. Refute it at one input. -/
def buildLocalsWrong : ChangeSpec := { name := "buildLocals", fn := fun _ => fun
  | [d1, d2] => { results := [.lit (.bool false)], args := [d1, d2] }
  | _ => none }
def BuildLocalsWrongFalsely : Prop := buildLocalsRow.holds Try.pinned (OpenSpec.ofChange buildLocalsWrong)

/-- 'seedcornlaw25.BuildWide': WHATEVER THE INPUT: true; the input reads as it did. -/
def buildWideSpec : ChangeSpec := { name := "buildWide", fn := fun _ => fun
  | [d1, d2] => { results := [.lit (.bool true)], args := [d1, d2] }
  | _ => none }
def buildWideRow : OpenClaim := { program := "ytmfihmkopmgelaa", sum := "b856a64e40e5b6dc438a39dda213b8c2002d06af0a003d2ac3dae0b03f6dbe20", func := "seedcorn/seedcornlaw25.BuildWide", spec := "buildWide", unfollowed := true, recurses := true, apart := false }
def BuildWideSaid : Prop := buildWideRow.holds Try.pinned (OpenSpec.ofChange buildWideSpec)

/-- ITS FALSE NEIGHBOUR: 'it returns false'. Refute it at one input. -/
def buildWideWrong : ChangeSpec := { name := "buildWide", fn := fun _ => fun
  | [d1, d2] => { results := [.lit (.bool false)], args := [d1, d2] }
  | _ => none }
def BuildWideWrongFalsely : Prop := buildWideRow.holds Try.pinned (OpenSpec.ofChange buildWideWrong)

/-- 'seedcornlaw25.BuildEnds': WHATEVER THE INPUT: true; the input reads as it did. -/
def buildEndsSpec : ChangeSpec := { name := "buildEnds", fn := fun _ => fun
  | [d1, d2] => { results := [.lit (.bool true)], args := [d1, d2] }
  | _ => none }
def buildEndsRow : OpenClaim := { program := "ytmfihmkopmgelaa", sum := "b856a64e40e5b6dc438a39dda213b8c2002d06af0a003d2ac3dae0b03f6dbe20", func := "seedcorn/seedcornlaw25.BuildEnds", spec := "buildEnds", unfollowed := true, recurses := true, loops := true, apart := false }
def BuildEndsSaid : Prop := buildEndsRow.holds Try.pinned (OpenSpec.ofChange buildEndsSpec)

/-- ITS FALSE NEIGHBOUR: 'it returns false'. Refute it at one input. -/
def buildEndsWrong : ChangeSpec := { name := "buildEnds", fn := fun _ => fun
  | [d1, d2] => { results := [.lit (.bool false)], args := [d1, d2] }
  | _ => none }
def BuildEndsWrongFalsely : Prop := buildEndsRow.holds Try.pinned (OpenSpec.ofChange buildEndsWrong)

/-- 'seedcornlaw25.BuildReads': WHATEVER THE INPUT: true; the input reads as it did. -/
def buildReadsSpec : ChangeSpec := { name := "buildReads", fn := fun _ => fun
  | [d1, d2, d3] => { results := [.lit (.bool true)], args := [d1, d2, d3] }
  | _ => none }
def buildReadsRow : OpenClaim := { program := "ytmfihmkopmgelaa", sum := "b856a64e40e5b6dc438a39dda213b8c2002d06af0a003d2ac3dae0b03f6dbe20", func := "seedcorn/seedcornlaw25.BuildReads", spec := "buildReads", unfollowed := true, recurses := true, loops := true, apart := false }
def BuildReadsSaid : Prop := buildReadsRow.holds Try.pinned (OpenSpec.ofChange buildReadsSpec)

/-- ITS FALSE NEIGHBOUR: 'it returns false'. Refute it at one input. -/
def buildReadsWrong : ChangeSpec := { name := "buildReads", fn := fun _ => fun
  | [d1, d2, d3] => { results := [.lit (.bool false)], args := [d1, d2, d3] }
  | _ => none }
def BuildReadsWrongFalsely : Prop := buildReadsRow.holds Try.pinned (OpenSpec.ofChange buildReadsWrong)

/-- 'seedcornlaw25.BuildTwo': WHATEVER THE INPUT: true; the input reads as it did. -/
def buildTwoSpec : ChangeSpec := { name := "buildTwo", fn := fun _ => fun
  | [d1, d2, d3] => { results := [.lit (.bool true)], args := [d1, d2, d3] }
  | _ => none }
def buildTwoRow : OpenClaim := { program := "ytmfihmkopmgelaa", sum := "b856a64e40e5b6dc438a39dda213b8c2002d06af0a003d2ac3dae0b03f6dbe20", func := "seedcorn/seedcornlaw25.BuildTwo", spec := "buildTwo", unfollowed := true, recurses := true, loops := true, apart := false }
def BuildTwoSaid : Prop := buildTwoRow.holds Try.pinned (OpenSpec.ofChange buildTwoSpec)

/-- ITS FALSE NEIGHBOUR: 'it returns false'. Refute it at one input. -/
def buildTwoWrong : ChangeSpec := { name := "buildTwo", fn := fun _ => fun
  | [d1, d2, d3] => { results := [.lit (.bool false)], args := [d1, d2, d3] }
  | _ => none }
def BuildTwoWrongFalsely : Prop := buildTwoRow.holds Try.pinned (OpenSpec.ofChange buildTwoWrong)

/-- 'seedcornlaw25.BuildRuns': WHATEVER THE INPUT: true; the input reads as it did. -/
def buildRunsSpec : ChangeSpec := { name := "buildRuns", fn := fun _ => fun
  | [d1, d2] => { results := [.lit (.bool true)], args := [d1, d2] }
  | _ => none }
def buildRunsRow : OpenClaim := { program := "ytmfihmkopmgelaa", sum := "b856a64e40e5b6dc438a39dda213b8c2002d06af0a003d2ac3dae0b03f6dbe20", func := "seedcorn/seedcornlaw25.BuildRuns", spec := "buildRuns", unfollowed := true, recurses := true, loops := true, apart := false }
def BuildRunsSaid : Prop := buildRunsRow.holds Try.pinned (OpenSpec.ofChange buildRunsSpec)

/-- ITS FALSE NEIGHBOUR: 'it returns false'. Refute it at one input. -/
def buildRunsWrong : ChangeSpec := { name := "buildRuns", fn := fun _ => fun
  | [d1, d2] => { results := [.lit (.bool false)], args := [d1, d2] }
  | _ => none }
def BuildRunsWrongFalsely : Prop := buildRunsRow.holds Try.pinned (OpenSpec.ofChange buildRunsWrong)

/- THE SECOND FORM. 'bulk': how many values and letters a reading holds, each counted each time it is reached (what is shared counts as often as it is met; a slice's spare places count too). A statement '..UptoSaid' is the law's where the arguments, and the package variables that the reading takes, are together of bulk at most 1048576: NARROWER than '..Said'. Prove '..Said' where nothing that the law and all that it calls make is longer than what came in: it says more and counts as full. Else prove '..UptoSaid'. A law counts once. -/
mutual
def uptoBulk {H : Type} : DataW H → Nat
  | .lit (.string bytes) => bytes.length + 1
  | .lit _ => 1
  | .nil => 1
  | .ptr d => uptoBulk d + 1
  | .slice elems spare => uptoBulkAll elems + uptoBulkAll spare + 1
  | .agg parts => uptoBulkAll parts + 1
  | .iface _ d => uptoBulk d + 1
  | .map entries => uptoBulkEntries entries + 1
  | .held _ => 1
def uptoBulkAll {H : Type} : List (DataW H) → Nat
  | [] => 0
  | d :: r => uptoBulk d + uptoBulkAll r
def uptoBulkEntries {H : Type} : List (Lit × DataW H) → Nat
  | [] => 0
  | x :: r => uptoBulkEntry x + uptoBulkEntries r
def uptoBulkEntry {H : Type} : Lit × DataW H → Nat
  | (.string bytes, d) => bytes.length + uptoBulk d + 1
  | (_, d) => uptoBulk d + 1
 end
def uptoSmall : (H : Type) → List (DataW H) → Bool := fun _ ds => decide (uptoBulkAll ds ≤ 1048576)
def OpenSpec.upto (s : _root_.Go.ChangeSpec) : _root_.Go.OpenSpec := { _root_.Go.OpenSpec.ofChange s with cond := some uptoSmall }

/-- 'seedcornlaw25.BuildDoes', WHERE WHAT IT READS IS OF BULK AT MOST 1048576: true; the input reads as it did. -/
def buildDoesUptoRow : OpenClaim := { program := "ytmfihmkopmgelaa", sum := "b856a64e40e5b6dc438a39dda213b8c2002d06af0a003d2ac3dae0b03f6dbe20", func := "seedcorn/seedcornlaw25.BuildDoes", spec := "buildDoes", unfollowed := true, recurses := true, loops := true, apart := false, narrowed := true }
def BuildDoesUptoSaid : Prop := buildDoesUptoRow.holds Try.pinned (OpenSpec.upto buildDoesSpec)

/-- 'seedcornlaw25.BuildShapes', WHERE WHAT IT READS IS OF BULK AT MOST 1048576: true; the input reads as it did. -/
def buildShapesUptoRow : OpenClaim := { program := "ytmfihmkopmgelaa", sum := "b856a64e40e5b6dc438a39dda213b8c2002d06af0a003d2ac3dae0b03f6dbe20", func := "seedcorn/seedcornlaw25.BuildShapes", spec := "buildShapes", unfollowed := true, recurses := true, loops := true, apart := false, narrowed := true }
def BuildShapesUptoSaid : Prop := buildShapesUptoRow.holds Try.pinned (OpenSpec.upto buildShapesSpec)

/-- 'seedcornlaw25.BuildIdle', WHERE WHAT IT READS IS OF BULK AT MOST 1048576: true; the input reads as it did. -/
def buildIdleUptoRow : OpenClaim := { program := "ytmfihmkopmgelaa", sum := "b856a64e40e5b6dc438a39dda213b8c2002d06af0a003d2ac3dae0b03f6dbe20", func := "seedcorn/seedcornlaw25.BuildIdle", spec := "buildIdle", unfollowed := true, recurses := true, apart := false, narrowed := true }
def BuildIdleUptoSaid : Prop := buildIdleUptoRow.holds Try.pinned (OpenSpec.upto buildIdleSpec)

/-- 'seedcornlaw25.BuildLocals', WHERE WHAT IT READS IS OF BULK AT MOST 1048576: true; the input reads as it did. -/
def buildLocalsUptoRow : OpenClaim := { program := "ytmfihmkopmgelaa", sum := "b856a64e40e5b6dc438a39dda213b8c2002d06af0a003d2ac3dae0b03f6dbe20", func := "seedcorn/seedcornlaw25.BuildLocals", spec := "buildLocals", unfollowed := true, recurses := true, apart := false, narrowed := true }
def BuildLocalsUptoSaid : Prop := buildLocalsUptoRow.holds Try.pinned (OpenSpec.upto buildLocalsSpec)

/-- 'seedcornlaw25.BuildWide', WHERE WHAT IT READS IS OF BULK AT MOST 1048576: true; the input reads as it did. -/
def buildWideUptoRow : OpenClaim := { program := "ytmfihmkopmgelaa", sum := "b856a64e40e5b6dc438a39dda213b8c2002d06af0a003d2ac3dae0b03f6dbe20", func := "seedcorn/seedcornlaw25.BuildWide", spec := "buildWide", unfollowed := true, recurses := true, apart := false, narrowed := true }
def BuildWideUptoSaid : Prop := buildWideUptoRow.holds Try.pinned (OpenSpec.upto buildWideSpec)

/-- 'seedcornlaw25.BuildEnds', WHERE WHAT IT READS IS OF BULK AT MOST 1048576: true; the input reads as it did. -/
def buildEndsUptoRow : OpenClaim := { program := "ytmfihmkopmgelaa", sum := "b856a64e40e5b6dc438a39dda213b8c2002d06af0a003d2ac3dae0b03f6dbe20", func := "seedcorn/seedcornlaw25.BuildEnds", spec := "buildEnds", unfollowed := true, recurses := true, loops := true, apart := false, narrowed := true }
def BuildEndsUptoSaid : Prop := buildEndsUptoRow.holds Try.pinned (OpenSpec.upto buildEndsSpec)

/-- 'seedcornlaw25.BuildReads', WHERE WHAT IT READS IS OF BULK AT MOST 1048576: true; the input reads as it did. -/
def buildReadsUptoRow : OpenClaim := { program := "ytmfihmkopmgelaa", sum := "b856a64e40e5b6dc438a39dda213b8c2002d06af0a003d2ac3dae0b03f6dbe20", func := "seedcorn/seedcornlaw25.BuildReads", spec := "buildReads", unfollowed := true, recurses := true, loops := true, apart := false, narrowed := true }
def BuildReadsUptoSaid : Prop := buildReadsUptoRow.holds Try.pinned (OpenSpec.upto buildReadsSpec)

/-- 'seedcornlaw25.BuildTwo', WHERE WHAT IT READS IS OF BULK AT MOST 1048576: true; the input reads as it did. -/
def buildTwoUptoRow : OpenClaim := { program := "ytmfihmkopmgelaa", sum := "b856a64e40e5b6dc438a39dda213b8c2002d06af0a003d2ac3dae0b03f6dbe20", func := "seedcorn/seedcornlaw25.BuildTwo", spec := "buildTwo", unfollowed := true, recurses := true, loops := true, apart := false, narrowed := true }
def BuildTwoUptoSaid : Prop := buildTwoUptoRow.holds Try.pinned (OpenSpec.upto buildTwoSpec)

/-- 'seedcornlaw25.BuildRuns', WHERE WHAT IT READS IS OF BULK AT MOST 1048576: true; the input reads as it did. -/
def buildRunsUptoRow : OpenClaim := { program := "ytmfihmkopmgelaa", sum := "b856a64e40e5b6dc438a39dda213b8c2002d06af0a003d2ac3dae0b03f6dbe20", func := "seedcorn/seedcornlaw25.BuildRuns", spec := "buildRuns", unfollowed := true, recurses := true, loops := true, apart := false, narrowed := true }
def BuildRunsUptoSaid : Prop := buildRunsUptoRow.holds Try.pinned (OpenSpec.upto buildRunsSpec)

end Rows
end Go.Proofs.Ytmfihmkopmgelaa
