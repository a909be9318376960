/-
  No cell of these rows narrows 'for every input' (looked for: loops, veiled, ifaces, maps, wideKeys, modest, calm, conditions, laid).
  DERIVED. THE GIVEN ROWS OF THIS SEAT. 8 by the template 'for every input the law returns true; each argument reads behind the call as it read before'; 0 by the template 'total and deterministic' (their statements: YtidfabbnobipkaaTotals.lean).
  GIVEN WITH THE SEED: the statements are not yours to turn. If you find one false, say at which input.
  Laid BY PROGRAM, IN A SANDBOX (cutbox-rows.mjs): the forced cells as the released guide's own fill.sh prints them over the translation b17754ec75b94a3c… (all of the seat's roots in one cut). By AI agents, Wed Nov 11 2026. No macro, syntax, notation, axiom, sorry.
-/
import Derived.Test.YtidfabbnobipkaaChecked
import GoSem.Claim
import GoSem.ClaimJoined
import GoSem.ClaimMapViews
import Derived.JoinedTies
import Derived.KernelRfl
namespace Go.Proofs.Ytidfabbnobipkaa
/- THE CELL 'sum', in the pinned program and in every row, IS THE sha256 OF THE DUMP (.gsa) THAT YtidfabbnobipkaaProg.lean LOADS. Nothing in Lean hashes anything: it is a label: what it is worth is what the hold of that sum in a sandbox is worth. -/
noncomputable def Try.pinned : Pinned := { name := "ytidfabbnobipkaa", sum := "b17754ec75b94a3c18db381ccefe6ef5b311b5ae33c79ca9e20bdc56c457f3a2", checked := Try.checked }
namespace Rows
def none {H : Type} : Left H := { results := [], args := [] }

/-- 'seedcornlaw33.TidyOf': WHATEVER THE INPUT: true; the input reads as it did. -/
def tidyOfSpec : ChangeSpec := { name := "tidyOf", fn := fun _ => fun
  | [d1, d2] => { results := [.lit (.bool true)], args := [d1, d2] }
  | _ => none }
def tidyOfRow : OpenClaim := { program := "ytidfabbnobipkaa", sum := "b17754ec75b94a3c18db381ccefe6ef5b311b5ae33c79ca9e20bdc56c457f3a2", func := "seedcorn/seedcornlaw33.TidyOf", spec := "tidyOf", unfollowed := true, recurses := true, apart := false }
def TidyOfSaid : Prop := tidyOfRow.holds Try.pinned (OpenSpec.ofChange tidyOfSpec)

/-- ITS FALSE NEIGHBOUR: 'it returns false'. Refute it at one input. -/
def tidyOfWrong : ChangeSpec := { name := "tidyOf", fn := fun _ => fun
  | [d1, d2] => { results := [.lit (.bool false)], args := [d1, d2] }
  | _ => none }
def TidyOfWrongFalsely : Prop := tidyOfRow.holds Try.pinned (OpenSpec.ofChange tidyOfWrong)

/-- 'seedcornlaw33.TidyCheck': WHATEVER THE INPUT: true; the input reads as it did. -/
def tidyCheckSpec : ChangeSpec := { name := "tidyCheck", fn := fun _ => fun
  | [d1, d2, d3] => { results := [.lit (.bool true)], args := [d1, d2, d3] }
  | _ => none }
def tidyCheckRow : OpenClaim := { program := "ytidfabbnobipkaa", sum := "b17754ec75b94a3c18db381ccefe6ef5b311b5ae33c79ca9e20bdc56c457f3a2", func := "seedcorn/seedcornlaw33.TidyCheck", spec := "tidyCheck", unfollowed := true, recurses := true, apart := false }
def TidyCheckSaid : Prop := tidyCheckRow.holds Try.pinned (OpenSpec.ofChange tidyCheckSpec)

/-- ITS FALSE NEIGHBOUR: 'it returns false'. Refute it at one input. -/
def tidyCheckWrong : ChangeSpec := { name := "tidyCheck", fn := fun _ => fun
  | [d1, d2, d3] => { results := [.lit (.bool false)], args := [d1, d2, d3] }
  | _ => none }
def TidyCheckWrongFalsely : Prop := tidyCheckRow.holds Try.pinned (OpenSpec.ofChange tidyCheckWrong)

/-- 'seedcornlaw33.TidyMeans': WHATEVER THE INPUT: true; the input reads as it did. -/
def tidyMeansSpec : ChangeSpec := { name := "tidyMeans", fn := fun _ => fun
  | [d1, d2, d3] => { results := [.lit (.bool true)], args := [d1, d2, d3] }
  | _ => none }
def tidyMeansRow : OpenClaim := { program := "ytidfabbnobipkaa", sum := "b17754ec75b94a3c18db381ccefe6ef5b311b5ae33c79ca9e20bdc56c457f3a2", func := "seedcorn/seedcornlaw33.TidyMeans", spec := "tidyMeans", unfollowed := true, recurses := true, apart := false }
def TidyMeansSaid : Prop := tidyMeansRow.holds Try.pinned (OpenSpec.ofChange tidyMeansSpec)

/-- ITS FALSE NEIGHBOUR: 'it returns false'. Refute it at one input. -/
def tidyMeansWrong : ChangeSpec := { name := "tidyMeans", fn := fun _ => fun
  | [d1, d2, d3] => { results := [.lit (.bool false)], args := [d1, d2, d3] }
  | _ => none }
def TidyMeansWrongFalsely : Prop := tidyMeansRow.holds Try.pinned (OpenSpec.ofChange tidyMeansWrong)

/-- 'seedcornlaw33.TidyTrue': WHATEVER THE INPUT: true; the input reads as it did. -/
def tidyTrueSpec : ChangeSpec := { name := "tidyTrue", fn := fun _ => fun
  | [d1, d2, d3] => { results := [.lit (.bool true)], args := [d1, d2, d3] }
  | _ => none }
def tidyTrueRow : OpenClaim := { program := "ytidfabbnobipkaa", sum := "b17754ec75b94a3c18db381ccefe6ef5b311b5ae33c79ca9e20bdc56c457f3a2", func := "seedcorn/seedcornlaw33.TidyTrue", spec := "tidyTrue", unfollowed := true, recurses := true, apart := false }
def TidyTrueSaid : Prop := tidyTrueRow.holds Try.pinned (OpenSpec.ofChange tidyTrueSpec)

/-- ITS FALSE NEIGHBOUR: 'it returns false'. Refute it at one input. -/
def tidyTrueWrong : ChangeSpec := { name := "tidyTrue", fn := fun _ => fun
  | [d1, d2, d3] => { results := [.lit (.bool false)], args := [d1, d2, d3] }
  | _ => none }
def TidyTrueWrongFalsely : Prop := tidyTrueRow.holds Try.pinned (OpenSpec.ofChange tidyTrueWrong)

/-- 'seedcornlaw33.TidyTwice': WHATEVER THE INPUT: true; the input reads as it did. -/
def tidyTwiceSpec : ChangeSpec := { name := "tidyTwice", fn := fun _ => fun
  | [d1, d2] => { results := [.lit (.bool true)], args := [d1, d2] }
  | _ => none }
def tidyTwiceRow : OpenClaim := { program := "ytidfabbnobipkaa", sum := "b17754ec75b94a3c18db381ccefe6ef5b311b5ae33c79ca9e20bdc56c457f3a2", func := "seedcorn/seedcornlaw33.TidyTwice", spec := "tidyTwice", unfollowed := true, recurses := true, apart := false }
def TidyTwiceSaid : Prop := tidyTwiceRow.holds Try.pinned (OpenSpec.ofChange tidyTwiceSpec)

/-- ITS FALSE NEIGHBOUR: 'it returns false'. Refute it at one input. -/
def tidyTwiceWrong : ChangeSpec := { name := "tidyTwice", fn := fun _ => fun
  | [d1, d2] => { results := [.lit (.bool false)], args := [d1, d2] }
  | _ => none }
def TidyTwiceWrongFalsely : Prop := tidyTwiceRow.holds Try.pinned (OpenSpec.ofChange tidyTwiceWrong)

/-- 'seedcornlaw33.TidyChain': WHATEVER THE INPUT: true; the input reads as it did. -/
def tidyChainSpec : ChangeSpec := { name := "tidyChain", fn := fun _ => fun
  | [d] => { results := [.lit (.bool true)], args := [d] }
  | _ => none }
def tidyChainRow : OpenClaim := { program := "ytidfabbnobipkaa", sum := "b17754ec75b94a3c18db381ccefe6ef5b311b5ae33c79ca9e20bdc56c457f3a2", func := "seedcorn/seedcornlaw33.TidyChain", spec := "tidyChain", unfollowed := true, recurses := true, apart := false }
def TidyChainSaid : Prop := tidyChainRow.holds Try.pinned (OpenSpec.ofChange tidyChainSpec)

/-- ITS FALSE NEIGHBOUR: 'it returns false'. Refute it at one input. -/
def tidyChainWrong : ChangeSpec := { name := "tidyChain", fn := fun _ => fun
  | [d] => { results := [.lit (.bool false)], args := [d] }
  | _ => none }
def TidyChainWrongFalsely : Prop := tidyChainRow.holds Try.pinned (OpenSpec.ofChange tidyChainWrong)

/-- 'seedcornlaw33.TidyMost': WHATEVER THE INPUT: true; the input reads as it did. -/
def tidyMostSpec : ChangeSpec := { name := "tidyMost", fn := fun _ => fun
  | [d1, d2] => { results := [.lit (.bool true)], args := [d1, d2] }
  | _ => none }
def tidyMostRow : OpenClaim := { program := "ytidfabbnobipkaa", sum := "b17754ec75b94a3c18db381ccefe6ef5b311b5ae33c79ca9e20bdc56c457f3a2", func := "seedcorn/seedcornlaw33.TidyMost", spec := "tidyMost", unfollowed := true, recurses := true, apart := false }
def TidyMostSaid : Prop := tidyMostRow.holds Try.pinned (OpenSpec.ofChange tidyMostSpec)

/-- ITS FALSE NEIGHBOUR: 'it returns false'. Refute it at one input. -/
def tidyMostWrong : ChangeSpec := { name := "tidyMost", fn := fun _ => fun
  | [d1, d2] => { results := [.lit (.bool false)], args := [d1, d2] }
  | _ => none }
def TidyMostWrongFalsely : Prop := tidyMostRow.holds Try.pinned (OpenSpec.ofChange tidyMostWrong)

/-- 'seedcornlaw33.TidyJoined': WHATEVER THE INPUT: true; the input reads as it did. -/
def tidyJoinedSpec : ChangeSpec := { name := "tidyJoined", fn := fun _ => fun
  | [d] => { results := [.lit (.bool true)], args := [d] }
  | _ => none }
def tidyJoinedRow : OpenClaim := { program := "ytidfabbnobipkaa", sum := "b17754ec75b94a3c18db381ccefe6ef5b311b5ae33c79ca9e20bdc56c457f3a2", func := "seedcorn/seedcornlaw33.TidyJoined", spec := "tidyJoined", unfollowed := true, recurses := true, apart := false }
def TidyJoinedSaid : Prop := tidyJoinedRow.holds Try.pinned (OpenSpec.ofChange tidyJoinedSpec)

/-- ITS FALSE NEIGHBOUR: 'it returns false'. Refute it at one input. -/
def tidyJoinedWrong : ChangeSpec := { name := "tidyJoined", fn := fun _ => fun
  | [d] => { results := [.lit (.bool false)], args := [d] }
  | _ => none }
def TidyJoinedWrongFalsely : Prop := tidyJoinedRow.holds Try.pinned (OpenSpec.ofChange tidyJoinedWrong)

/- THE SECOND FORM. 'bulk': how many values and letters a reading holds, each counted each time it is reached (what is shared counts as often as it is met; a slice's spare places count too). A statement '..UptoSaid' is the law's where the arguments, and the package variables that the reading takes, are together of bulk at most 1048576: NARROWER than '..Said'. Prove '..Said' where nothing that the law and all that it calls make is longer than what came in: it says more and counts as full. Else prove '..UptoSaid'. A law counts once. -/
mutual
def uptoBulk {H : Type} : DataW H → Nat
  | .lit (.string bytes) => bytes.length + 1
  | .lit _ => 1
  | .nil => 1
  | .ptr d => uptoBulk d + 1
  | .slice elems spare => uptoBulkAll elems + uptoBulkAll spare + 1
  | .agg parts => uptoBulkAll parts + 1
  | .iface _ d => uptoBulk d + 1
  | .map entries => uptoBulkEntries entries + 1
  | .held _ => 1
def uptoBulkAll {H : Type} : List (DataW H) → Nat
  | [] => 0
  | d :: r => uptoBulk d + uptoBulkAll r
def uptoBulkEntries {H : Type} : List (Lit × DataW H) → Nat
  | [] => 0
  | x :: r => uptoBulkEntry x + uptoBulkEntries r
def uptoBulkEntry {H : Type} : Lit × DataW H → Nat
  | (.string bytes, d) => bytes.length + uptoBulk d + 1
  | (_, d) => uptoBulk d + 1
 end
def uptoSmall : (H : Type) → List (DataW H) → Bool := fun _ ds => decide (uptoBulkAll ds ≤ 1048576)
def OpenSpec.upto (s : _root_.Go.ChangeSpec) : _root_.Go.OpenSpec := { _root_.Go.OpenSpec.ofChange s with cond := some uptoSmall }

/-- 'seedcornlaw33.TidyOf', WHERE WHAT IT READS IS OF BULK AT MOST 1048576: true; the input reads as it did. -/
def tidyOfUptoRow : OpenClaim := { program := "ytidfabbnobipkaa", sum := "b17754ec75b94a3c18db381ccefe6ef5b311b5ae33c79ca9e20bdc56c457f3a2", func := "seedcorn/seedcornlaw33.TidyOf", spec := "tidyOf", unfollowed := true, recurses := true, apart := false, narrowed := true }
def TidyOfUptoSaid : Prop := tidyOfUptoRow.holds Try.pinned (OpenSpec.upto tidyOfSpec)

/-- 'seedcornlaw33.TidyCheck', WHERE WHAT IT READS IS OF BULK AT MOST 1048576: true; the input reads as it did. -/
def tidyCheckUptoRow : OpenClaim := { program := "ytidfabbnobipkaa", sum := "b17754ec75b94a3c18db381ccefe6ef5b311b5ae33c79ca9e20bdc56c457f3a2", func := "seedcorn/seedcornlaw33.TidyCheck", spec := "tidyCheck", unfollowed := true, recurses := true, apart := false, narrowed := true }
def TidyCheckUptoSaid : Prop := tidyCheckUptoRow.holds Try.pinned (OpenSpec.upto tidyCheckSpec)

/-- 'seedcornlaw33.TidyMeans', WHERE WHAT IT READS IS OF BULK AT MOST 1048576: true; the input reads as it did. -/
def tidyMeansUptoRow : OpenClaim := { program := "ytidfabbnobipkaa", sum := "b17754ec75b94a3c18db381ccefe6ef5b311b5ae33c79ca9e20bdc56c457f3a2", func := "seedcorn/seedcornlaw33.TidyMeans", spec := "tidyMeans", unfollowed := true, recurses := true, apart := false, narrowed := true }
def TidyMeansUptoSaid : Prop := tidyMeansUptoRow.holds Try.pinned (OpenSpec.upto tidyMeansSpec)

/-- 'seedcornlaw33.TidyTrue', WHERE WHAT IT READS IS OF BULK AT MOST 1048576: true; the input reads as it did. -/
def tidyTrueUptoRow : OpenClaim := { program := "ytidfabbnobipkaa", sum := "b17754ec75b94a3c18db381ccefe6ef5b311b5ae33c79ca9e20bdc56c457f3a2", func := "seedcorn/seedcornlaw33.TidyTrue", spec := "tidyTrue", unfollowed := true, recurses := true, apart := false, narrowed := true }
def TidyTrueUptoSaid : Prop := tidyTrueUptoRow.holds Try.pinned (OpenSpec.upto tidyTrueSpec)

/-- 'seedcornlaw33.TidyTwice', WHERE WHAT IT READS IS OF BULK AT MOST 1048576: true; the input reads as it did. -/
def tidyTwiceUptoRow : OpenClaim := { program := "ytidfabbnobipkaa", sum := "b17754ec75b94a3c18db381ccefe6ef5b311b5ae33c79ca9e20bdc56c457f3a2", func := "seedcorn/seedcornlaw33.TidyTwice", spec := "tidyTwice", unfollowed := true, recurses := true, apart := false, narrowed := true }
def TidyTwiceUptoSaid : Prop := tidyTwiceUptoRow.holds Try.pinned (OpenSpec.upto tidyTwiceSpec)

/-- 'seedcornlaw33.TidyChain', WHERE WHAT IT READS IS OF BULK AT MOST 1048576: true; the input reads as it did. -/
def tidyChainUptoRow : OpenClaim := { program := "ytidfabbnobipkaa", sum := "b17754ec75b94a3c18db381ccefe6ef5b311b5ae33c79ca9e20bdc56c457f3a2", func := "seedcorn/seedcornlaw33.TidyChain", spec := "tidyChain", unfollowed := true, recurses := true, apart := false, narrowed := true }
def TidyChainUptoSaid : Prop := tidyChainUptoRow.holds Try.pinned (OpenSpec.upto tidyChainSpec)

/-- 'seedcornlaw33.TidyMost', WHERE WHAT IT READS IS OF BULK AT MOST 1048576: true; the input reads as it did. -/
def tidyMostUptoRow : OpenClaim := { program := "ytidfabbnobipkaa", sum := "b17754ec75b94a3c18db381ccefe6ef5b311b5ae33c79ca9e20bdc56c457f3a2", func := "seedcorn/seedcornlaw33.TidyMost", spec := "tidyMost", unfollowed := true, recurses := true, apart := false, narrowed := true }
def TidyMostUptoSaid : Prop := tidyMostUptoRow.holds Try.pinned (OpenSpec.upto tidyMostSpec)

/-- 'seedcornlaw33.TidyJoined', WHERE WHAT IT READS IS OF BULK AT MOST 1048576: true; the input reads as it did. -/
def tidyJoinedUptoRow : OpenClaim := { program := "ytidfabbnobipkaa", sum := "b17754ec75b94a3c18db381ccefe6ef5b311b5ae33c79ca9e20bdc56c457f3a2", func := "seedcorn/seedcornlaw33.TidyJoined", spec := "tidyJoined", unfollowed := true, recurses := true, apart := false, narrowed := true }
def TidyJoinedUptoSaid : Prop := tidyJoinedUptoRow.holds Try.pinned (OpenSpec.upto tidyJoinedSpec)

end Rows
end Go.Proofs.Ytidfabbnobipkaa
