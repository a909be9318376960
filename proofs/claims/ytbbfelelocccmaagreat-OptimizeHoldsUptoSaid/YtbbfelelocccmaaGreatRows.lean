/-
  No cell of these rows narrows 'for every input' (looked for: loops, veiled, ifaces, maps, wideKeys, modest, calm, conditions, laid).
  DERIVED. THE GIVEN ROWS OF THIS SEAT. 10 by the template 'for every input the law returns true; each argument reads behind the call as it read before'; 0 by the template 'total and deterministic' (their statements: YtbbfelelocccmaaGreatTotals.lean).
  GIVEN WITH THE SEED: the statements are not yours to turn. If you find one false, say at which input.
  Laid BY PROGRAM, IN A SANDBOX (cutbox-rows.mjs): the forced cells as the released guide's own fill.sh prints them over the translation ee83f91001e030dc… (all of the seat's roots in one cut). By AI agents, Wed Nov 11 2026. No macro, syntax, notation, axiom, sorry.
-/
import Derived.Test.YtbbfelelocccmaaGreatChecked
import GoSem.Claim
import GoSem.ClaimJoined
import GoSem.ClaimMapViews
import Derived.JoinedTies
import Derived.KernelRfl
namespace Go.Proofs.YtbbfelelocccmaaGreat
/- THE CELL 'sum', in the pinned program and in every row, IS THE sha256 OF THE DUMP (.gsa) THAT YtbbfelelocccmaaGreatProg.lean LOADS. Nothing in Lean hashes anything: it is a label: what it is worth is what the hold of that sum in a sandbox is worth. -/
noncomputable def Tryz.pinned : Pinned := { name := "ytbbfelelocccmaagreat", sum := "ee83f91001e030dcc3454fc764c85ef045f44e8de14637cc0c45ad26fc616841", checked := Tryz.checked }
namespace Rows
def none {H : Type} : Left H := { results := [], args := [] }

/-- 'seedcornlaw35.OptimizeHolds': WHATEVER THE INPUT: true; the input reads as it did. -/
def optimizeHoldsSpec : ChangeSpec := { name := "optimizeHolds", fn := fun _ => fun
  | [d1, d2] => { results := [.lit (.bool true)], args := [d1, d2] }
  | _ => none }
def optimizeHoldsRow : OpenClaim := { program := "ytbbfelelocccmaagreat", sum := "ee83f91001e030dcc3454fc764c85ef045f44e8de14637cc0c45ad26fc616841", func := "seedcorn/seedcornlaw35.OptimizeHolds", spec := "optimizeHolds", unfollowed := true, recurses := true, plainKeys := false, apart := false }
def OptimizeHoldsSaid : Prop := optimizeHoldsRow.holds Tryz.pinned (OpenSpec.ofChange optimizeHoldsSpec)

/-- ITS FALSE NEIGHBOUR: 'it returns false'. Refute it at one input. -/
def optimizeHoldsWrong : ChangeSpec := { name := "optimizeHolds", fn := fun _ => fun
  | [d1, d2] => { results := [.lit (.bool false)], args := [d1, d2] }
  | _ => none }
def OptimizeHoldsWrongFalsely : Prop := optimizeHoldsRow.holds Tryz.pinned (OpenSpec.ofChange optimizeHoldsWrong)

/-- 'seedcornlaw35.OptimizeMeans': WHATEVER THE INPUT: true; the input reads as it did. -/
def optimizeMeansSpec : ChangeSpec := { name := "optimizeMeans", fn := fun _ => fun
  | [d1, d2, d3] => { results := [.lit (.bool true)], args := [d1, d2, d3] }
  | _ => none }
def optimizeMeansRow : OpenClaim := { program := "ytbbfelelocccmaagreat", sum := "ee83f91001e030dcc3454fc764c85ef045f44e8de14637cc0c45ad26fc616841", func := "seedcorn/seedcornlaw35.OptimizeMeans", spec := "optimizeMeans", unfollowed := true, recurses := true, plainKeys := false, apart := false }
def OptimizeMeansSaid : Prop := optimizeMeansRow.holds Tryz.pinned (OpenSpec.ofChange optimizeMeansSpec)

/-- ITS FALSE NEIGHBOUR: 'it returns false'. Refute it at one input. -/
def optimizeMeansWrong : ChangeSpec := { name := "optimizeMeans", fn := fun _ => fun
  | [d1, d2, d3] => { results := [.lit (.bool false)], args := [d1, d2, d3] }
  | _ => none }
def OptimizeMeansWrongFalsely : Prop := optimizeMeansRow.holds Tryz.pinned (OpenSpec.ofChange optimizeMeansWrong)

/-- 'seedcornlaw35.OptimizeChecks': WHATEVER THE INPUT: true; the input reads as it did. -/
def optimizeChecksSpec : ChangeSpec := { name := "optimizeChecks", fn := fun _ => fun
  | [d] => { results := [.lit (.bool true)], args := [d] }
  | _ => none }
def optimizeChecksRow : OpenClaim := { program := "ytbbfelelocccmaagreat", sum := "ee83f91001e030dcc3454fc764c85ef045f44e8de14637cc0c45ad26fc616841", func := "seedcorn/seedcornlaw35.OptimizeChecks", spec := "optimizeChecks", unfollowed := true, recurses := true, plainKeys := false, apart := false }
def OptimizeChecksSaid : Prop := optimizeChecksRow.holds Tryz.pinned (OpenSpec.ofChange optimizeChecksSpec)

/-- ITS FALSE NEIGHBOUR: 'it returns false'. Refute it at one input. -/
def optimizeChecksWrong : ChangeSpec := { name := "optimizeChecks", fn := fun _ => fun
  | [d] => { results := [.lit (.bool false)], args := [d] }
  | _ => none }
def OptimizeChecksWrongFalsely : Prop := optimizeChecksRow.holds Tryz.pinned (OpenSpec.ofChange optimizeChecksWrong)

/-- 'seedcornlaw35.OptimizeTrue': WHATEVER THE INPUT: true; the input reads as it did. -/
def optimizeTrueSpec : ChangeSpec := { name := "optimizeTrue", fn := fun _ => fun
  | [d] => { results := [.lit (.bool true)], args := [d] }
  | _ => none }
def optimizeTrueRow : OpenClaim := { program := "ytbbfelelocccmaagreat", sum := "ee83f91001e030dcc3454fc764c85ef045f44e8de14637cc0c45ad26fc616841", func := "seedcorn/seedcornlaw35.OptimizeTrue", spec := "optimizeTrue", unfollowed := true, recurses := true, plainKeys := false, apart := false }
def OptimizeTrueSaid : Prop := optimizeTrueRow.holds Tryz.pinned (OpenSpec.ofChange optimizeTrueSpec)

/-- ITS FALSE NEIGHBOUR: 'it returns false'. Refute it at one input. -/
def optimizeTrueWrong : ChangeSpec := { name := "optimizeTrue", fn := fun _ => fun
  | [d] => { results := [.lit (.bool false)], args := [d] }
  | _ => none }
def OptimizeTrueWrongFalsely : Prop := optimizeTrueRow.holds Tryz.pinned (OpenSpec.ofChange optimizeTrueWrong)

/-- 'seedcornlaw35.OptimizeSteps': WHATEVER THE INPUT: true; the input reads as it did. -/
def optimizeStepsSpec : ChangeSpec := { name := "optimizeSteps", fn := fun _ => fun
  | [d1, d2, d3] => { results := [.lit (.bool true)], args := [d1, d2, d3] }
  | _ => none }
def optimizeStepsRow : OpenClaim := { program := "ytbbfelelocccmaagreat", sum := "ee83f91001e030dcc3454fc764c85ef045f44e8de14637cc0c45ad26fc616841", func := "seedcorn/seedcornlaw35.OptimizeSteps", spec := "optimizeSteps", unfollowed := true, recurses := true, plainKeys := false, apart := false }
def OptimizeStepsSaid : Prop := optimizeStepsRow.holds Tryz.pinned (OpenSpec.ofChange optimizeStepsSpec)

/-- ITS FALSE NEIGHBOUR: 'it returns false'. Refute it at one input. -/
def optimizeStepsWrong : ChangeSpec := { name := "optimizeSteps", fn := fun _ => fun
  | [d1, d2, d3] => { results := [.lit (.bool false)], args := [d1, d2, d3] }
  | _ => none }
def OptimizeStepsWrongFalsely : Prop := optimizeStepsRow.holds Tryz.pinned (OpenSpec.ofChange optimizeStepsWrong)

/-- 'seedcornlaw35.OptimizeNone': WHATEVER THE INPUT: true; the input reads as it did. -/
def optimizeNoneSpec : ChangeSpec := { name := "optimizeNone", fn := fun _ => fun
  | [d1, d2] => { results := [.lit (.bool true)], args := [d1, d2] }
  | _ => none }
def optimizeNoneRow : OpenClaim := { program := "ytbbfelelocccmaagreat", sum := "ee83f91001e030dcc3454fc764c85ef045f44e8de14637cc0c45ad26fc616841", func := "seedcorn/seedcornlaw35.OptimizeNone", spec := "optimizeNone", unfollowed := true, recurses := true, plainKeys := false, apart := false }
def OptimizeNoneSaid : Prop := optimizeNoneRow.holds Tryz.pinned (OpenSpec.ofChange optimizeNoneSpec)

/-- ITS FALSE NEIGHBOUR: 'it returns false'. Refute it at one input. -/
def optimizeNoneWrong : ChangeSpec := { name := "optimizeNone", fn := fun _ => fun
  | [d1, d2] => { results := [.lit (.bool false)], args := [d1, d2] }
  | _ => none }
def OptimizeNoneWrongFalsely : Prop := optimizeNoneRow.holds Tryz.pinned (OpenSpec.ofChange optimizeNoneWrong)

/-- 'seedcornlaw35.OptimizeSplits': WHATEVER THE INPUT: true; the input reads as it did. -/
def optimizeSplitsSpec : ChangeSpec := { name := "optimizeSplits", fn := fun _ => fun
  | [d1, d2, d3] => { results := [.lit (.bool true)], args := [d1, d2, d3] }
  | _ => none }
def optimizeSplitsRow : OpenClaim := { program := "ytbbfelelocccmaagreat", sum := "ee83f91001e030dcc3454fc764c85ef045f44e8de14637cc0c45ad26fc616841", func := "seedcorn/seedcornlaw35.OptimizeSplits", spec := "optimizeSplits", unfollowed := true, recurses := true, plainKeys := false, apart := false }
def OptimizeSplitsSaid : Prop := optimizeSplitsRow.holds Tryz.pinned (OpenSpec.ofChange optimizeSplitsSpec)

/-- ITS FALSE NEIGHBOUR: 'it returns false'. Refute it at one input. -/
def optimizeSplitsWrong : ChangeSpec := { name := "optimizeSplits", fn := fun _ => fun
  | [d1, d2, d3] => { results := [.lit (.bool false)], args := [d1, d2, d3] }
  | _ => none }
def OptimizeSplitsWrongFalsely : Prop := optimizeSplitsRow.holds Tryz.pinned (OpenSpec.ofChange optimizeSplitsWrong)

/-- 'seedcornlaw35.OptimizeLess': WHATEVER THE INPUT: true; the input reads as it did. -/
def optimizeLessSpec : ChangeSpec := { name := "optimizeLess", fn := fun _ => fun
  | [d1, d2, d3] => { results := [.lit (.bool true)], args := [d1, d2, d3] }
  | _ => none }
def optimizeLessRow : OpenClaim := { program := "ytbbfelelocccmaagreat", sum := "ee83f91001e030dcc3454fc764c85ef045f44e8de14637cc0c45ad26fc616841", func := "seedcorn/seedcornlaw35.OptimizeLess", spec := "optimizeLess", unfollowed := true, recurses := true, plainKeys := false, apart := false }
def OptimizeLessSaid : Prop := optimizeLessRow.holds Tryz.pinned (OpenSpec.ofChange optimizeLessSpec)

/-- ITS FALSE NEIGHBOUR: 'it returns false'. Refute it at one input. -/
def optimizeLessWrong : ChangeSpec := { name := "optimizeLess", fn := fun _ => fun
  | [d1, d2, d3] => { results := [.lit (.bool false)], args := [d1, d2, d3] }
  | _ => none }
def OptimizeLessWrongFalsely : Prop := optimizeLessRow.holds Tryz.pinned (OpenSpec.ofChange optimizeLessWrong)

/-- 'seedcornlaw35.OptimizeJoins': WHATEVER THE INPUT: true; the input reads as it did. -/
def optimizeJoinsSpec : ChangeSpec := { name := "optimizeJoins", fn := fun _ => fun
  | [d] => { results := [.lit (.bool true)], args := [d] }
  | _ => none }
def optimizeJoinsRow : OpenClaim := { program := "ytbbfelelocccmaagreat", sum := "ee83f91001e030dcc3454fc764c85ef045f44e8de14637cc0c45ad26fc616841", func := "seedcorn/seedcornlaw35.OptimizeJoins", spec := "optimizeJoins", unfollowed := true, recurses := true, plainKeys := false, apart := false }
def OptimizeJoinsSaid : Prop := optimizeJoinsRow.holds Tryz.pinned (OpenSpec.ofChange optimizeJoinsSpec)

/-- ITS FALSE NEIGHBOUR: 'it returns false'. Refute it at one input. -/
def optimizeJoinsWrong : ChangeSpec := { name := "optimizeJoins", fn := fun _ => fun
  | [d] => { results := [.lit (.bool false)], args := [d] }
  | _ => none }
def OptimizeJoinsWrongFalsely : Prop := optimizeJoinsRow.holds Tryz.pinned (OpenSpec.ofChange optimizeJoinsWrong)

/-- 'seedcornlaw35.OptimizeNever': WHATEVER THE INPUT: true; the input reads as it did. -/
def optimizeNeverSpec : ChangeSpec := { name := "optimizeNever", fn := fun _ => fun
  | [d1, d2, d3] => { results := [.lit (.bool true)], args := [d1, d2, d3] }
  | _ => none }
def optimizeNeverRow : OpenClaim := { program := "ytbbfelelocccmaagreat", sum := "ee83f91001e030dcc3454fc764c85ef045f44e8de14637cc0c45ad26fc616841", func := "seedcorn/seedcornlaw35.OptimizeNever", spec := "optimizeNever", unfollowed := true, recurses := true, plainKeys := false, apart := false }
def OptimizeNeverSaid : Prop := optimizeNeverRow.holds Tryz.pinned (OpenSpec.ofChange optimizeNeverSpec)

/-- ITS FALSE NEIGHBOUR: 'it returns false'. Refute it at one input. -/
def optimizeNeverWrong : ChangeSpec := { name := "optimizeNever", fn := fun _ => fun
  | [d1, d2, d3] => { results := [.lit (.bool false)], args := [d1, d2, d3] }
  | _ => none }
def OptimizeNeverWrongFalsely : Prop := optimizeNeverRow.holds Tryz.pinned (OpenSpec.ofChange optimizeNeverWrong)

/- THE SECOND FORM. 'bulk': how many values and letters a reading holds, each counted each time it is reached (what is shared counts as often as it is met; a slice's spare places count too). A statement '..UptoSaid' is the law's where the arguments, and the package variables that the reading takes, are together of bulk at most 1048576: NARROWER than '..Said'. Prove '..Said' where nothing that the law and all that it calls make is longer than what came in: it says more and counts as full. Else prove '..UptoSaid'. A law counts once. -/
mutual
def uptoBulk {H : Type} : DataW H → Nat
  | .lit (.string bytes) => bytes.length + 1
  | .lit _ => 1
  | .nil => 1
  | .ptr d => uptoBulk d + 1
  | .slice elems spare => uptoBulkAll elems + uptoBulkAll spare + 1
  | .agg parts => uptoBulkAll parts + 1
  | .iface _ d => uptoBulk d + 1
  | .map entries => uptoBulkEntries entries + 1
  | .held _ => 1
def uptoBulkAll {H : Type} : List (DataW H) → Nat
  | [] => 0
  | d :: r => uptoBulk d + uptoBulkAll r
def uptoBulkEntries {H : Type} : List (Lit × DataW H) → Nat
  | [] => 0
  | x :: r => uptoBulkEntry x + uptoBulkEntries r
def uptoBulkEntry {H : Type} : Lit × DataW H → Nat
  | (.string bytes, d) => bytes.length + uptoBulk d + 1
  | (_, d) => uptoBulk d + 1
 end
def uptoSmall : (H : Type) → List (DataW H) → Bool := fun _ ds => decide (uptoBulkAll ds ≤ 1048576)
def OpenSpec.upto (s : _root_.Go.ChangeSpec) : _root_.Go.OpenSpec := { _root_.Go.OpenSpec.ofChange s with cond := some uptoSmall }

/-- 'seedcornlaw35.OptimizeHolds', WHERE WHAT IT READS IS OF BULK AT MOST 1048576: true; the input reads as it did. -/
def optimizeHoldsUptoRow : OpenClaim := { program := "ytbbfelelocccmaagreat", sum := "ee83f91001e030dcc3454fc764c85ef045f44e8de14637cc0c45ad26fc616841", func := "seedcorn/seedcornlaw35.OptimizeHolds", spec := "optimizeHolds", unfollowed := true, recurses := true, plainKeys := false, apart := false, narrowed := true }
def OptimizeHoldsUptoSaid : Prop := optimizeHoldsUptoRow.holds Tryz.pinned (OpenSpec.upto optimizeHoldsSpec)

/-- 'seedcornlaw35.OptimizeMeans', WHERE WHAT IT READS IS OF BULK AT MOST 1048576: true; the input reads as it did. -/
def optimizeMeansUptoRow : OpenClaim := { program := "ytbbfelelocccmaagreat", sum := "ee83f91001e030dcc3454fc764c85ef045f44e8de14637cc0c45ad26fc616841", func := "seedcorn/seedcornlaw35.OptimizeMeans", spec := "optimizeMeans", unfollowed := true, recurses := true, plainKeys := false, apart := false, narrowed := true }
def OptimizeMeansUptoSaid : Prop := optimizeMeansUptoRow.holds Tryz.pinned (OpenSpec.upto optimizeMeansSpec)

/-- 'seedcornlaw35.OptimizeChecks', WHERE WHAT IT READS IS OF BULK AT MOST 1048576: true; the input reads as it did. -/
def optimizeChecksUptoRow : OpenClaim := { program := "ytbbfelelocccmaagreat", sum := "ee83f91001e030dcc3454fc764c85ef045f44e8de14637cc0c45ad26fc616841", func := "seedcorn/seedcornlaw35.OptimizeChecks", spec := "optimizeChecks", unfollowed := true, recurses := true, plainKeys := false, apart := false, narrowed := true }
def OptimizeChecksUptoSaid : Prop := optimizeChecksUptoRow.holds Tryz.pinned (OpenSpec.upto optimizeChecksSpec)

/-- 'seedcornlaw35.OptimizeTrue', WHERE WHAT IT READS IS OF BULK AT MOST 1048576: true; the input reads as it did. -/
def optimizeTrueUptoRow : OpenClaim := { program := "ytbbfelelocccmaagreat", sum := "ee83f91001e030dcc3454fc764c85ef045f44e8de14637cc0c45ad26fc616841", func := "seedcorn/seedcornlaw35.OptimizeTrue", spec := "optimizeTrue", unfollowed := true, recurses := true, plainKeys := false, apart := false, narrowed := true }
def OptimizeTrueUptoSaid : Prop := optimizeTrueUptoRow.holds Tryz.pinned (OpenSpec.upto optimizeTrueSpec)

/-- 'seedcornlaw35.OptimizeSteps', WHERE WHAT IT READS IS OF BULK AT MOST 1048576: true; the input reads as it did. -/
def optimizeStepsUptoRow : OpenClaim := { program := "ytbbfelelocccmaagreat", sum := "ee83f91001e030dcc3454fc764c85ef045f44e8de14637cc0c45ad26fc616841", func := "seedcorn/seedcornlaw35.OptimizeSteps", spec := "optimizeSteps", unfollowed := true, recurses := true, plainKeys := false, apart := false, narrowed := true }
def OptimizeStepsUptoSaid : Prop := optimizeStepsUptoRow.holds Tryz.pinned (OpenSpec.upto optimizeStepsSpec)

/-- 'seedcornlaw35.OptimizeNone', WHERE WHAT IT READS IS OF BULK AT MOST 1048576: true; the input reads as it did. -/
def optimizeNoneUptoRow : OpenClaim := { program := "ytbbfelelocccmaagreat", sum := "ee83f91001e030dcc3454fc764c85ef045f44e8de14637cc0c45ad26fc616841", func := "seedcorn/seedcornlaw35.OptimizeNone", spec := "optimizeNone", unfollowed := true, recurses := true, plainKeys := false, apart := false, narrowed := true }
def OptimizeNoneUptoSaid : Prop := optimizeNoneUptoRow.holds Tryz.pinned (OpenSpec.upto optimizeNoneSpec)

/-- 'seedcornlaw35.OptimizeSplits', WHERE WHAT IT READS IS OF BULK AT MOST 1048576: true; the input reads as it did. -/
def optimizeSplitsUptoRow : OpenClaim := { program := "ytbbfelelocccmaagreat", sum := "ee83f91001e030dcc3454fc764c85ef045f44e8de14637cc0c45ad26fc616841", func := "seedcorn/seedcornlaw35.OptimizeSplits", spec := "optimizeSplits", unfollowed := true, recurses := true, plainKeys := false, apart := false, narrowed := true }
def OptimizeSplitsUptoSaid : Prop := optimizeSplitsUptoRow.holds Tryz.pinned (OpenSpec.upto optimizeSplitsSpec)

/-- 'seedcornlaw35.OptimizeLess', WHERE WHAT IT READS IS OF BULK AT MOST 1048576: true; the input reads as it did. -/
def optimizeLessUptoRow : OpenClaim := { program := "ytbbfelelocccmaagreat", sum := "ee83f91001e030dcc3454fc764c85ef045f44e8de14637cc0c45ad26fc616841", func := "seedcorn/seedcornlaw35.OptimizeLess", spec := "optimizeLess", unfollowed := true, recurses := true, plainKeys := false, apart := false, narrowed := true }
def OptimizeLessUptoSaid : Prop := optimizeLessUptoRow.holds Tryz.pinned (OpenSpec.upto optimizeLessSpec)

/-- 'seedcornlaw35.OptimizeJoins', WHERE WHAT IT READS IS OF BULK AT MOST 1048576: true; the input reads as it did. -/
def optimizeJoinsUptoRow : OpenClaim := { program := "ytbbfelelocccmaagreat", sum := "ee83f91001e030dcc3454fc764c85ef045f44e8de14637cc0c45ad26fc616841", func := "seedcorn/seedcornlaw35.OptimizeJoins", spec := "optimizeJoins", unfollowed := true, recurses := true, plainKeys := false, apart := false, narrowed := true }
def OptimizeJoinsUptoSaid : Prop := optimizeJoinsUptoRow.holds Tryz.pinned (OpenSpec.upto optimizeJoinsSpec)

/-- 'seedcornlaw35.OptimizeNever', WHERE WHAT IT READS IS OF BULK AT MOST 1048576: true; the input reads as it did. -/
def optimizeNeverUptoRow : OpenClaim := { program := "ytbbfelelocccmaagreat", sum := "ee83f91001e030dcc3454fc764c85ef045f44e8de14637cc0c45ad26fc616841", func := "seedcorn/seedcornlaw35.OptimizeNever", spec := "optimizeNever", unfollowed := true, recurses := true, plainKeys := false, apart := false, narrowed := true }
def OptimizeNeverUptoSaid : Prop := optimizeNeverUptoRow.holds Tryz.pinned (OpenSpec.upto optimizeNeverSpec)

end Rows
end Go.Proofs.YtbbfelelocccmaaGreat
