/-
  No cell of these rows narrows 'for every input' (looked for: loops, veiled, ifaces, maps, wideKeys, modest, calm, conditions, laid).
  DERIVED. THE GIVEN ROWS OF THIS SEAT. 6 by the template 'for every input the law returns true; each argument reads behind the call as it read before'; 0 by the template 'total and deterministic' (their statements: YtkccdnincholpaaTotals.lean).
  GIVEN WITH THE SEED: the statements are not yours to turn. If you find one false, say at which input.
  Laid BY PROGRAM, IN A SANDBOX (cutbox-rows.mjs): the forced cells as the released guide's own fill.sh prints them over the translation eb21316d17aa95f9… (all of the seat's roots in one cut). By AI agents, Wed Nov 11 2026. No macro, syntax, notation, axiom, sorry.
-/
import Derived.Test.YtkccdnincholpaaChecked
import GoSem.Claim
import GoSem.ClaimJoined
import GoSem.ClaimMapViews
import Derived.JoinedTies
import Derived.KernelRfl
namespace Go.Proofs.Ytkccdnincholpaa
/- THE CELL 'sum', in the pinned program and in every row, IS THE sha256 OF THE DUMP (.gsa) THAT YtkccdnincholpaaProg.lean LOADS. Nothing in Lean hashes anything: it is a label: what it is worth is what the hold of that sum in a sandbox is worth. -/
noncomputable def Try.pinned : Pinned := { name := "ytkccdnincholpaa", sum := "eb21316d17aa95f9506cf4172508430c972aee2081cc8327589b3f0783fffb22", checked := Try.checked }
namespace Rows
def none {H : Type} : Left H := { results := [], args := [] }

/-- 'seedcornlaw30.FoldOf': WHATEVER THE INPUT: true; the input reads as it did. -/
def foldOfSpec : ChangeSpec := { name := "foldOf", fn := fun _ => fun
  | [d1, d2] => { results := [.lit (.bool true)], args := [d1, d2] }
  | _ => none }
def foldOfRow : OpenClaim := { program := "ytkccdnincholpaa", sum := "eb21316d17aa95f9506cf4172508430c972aee2081cc8327589b3f0783fffb22", func := "seedcorn/seedcornlaw30.FoldOf", spec := "foldOf", apart := false }
def FoldOfSaid : Prop := foldOfRow.holds Try.pinned (OpenSpec.ofChange foldOfSpec)

/-- ITS FALSE NEIGHBOUR: 'it returns false'. Refute it at one input. -/
def foldOfWrong : ChangeSpec := { name := "foldOf", fn := fun _ => fun
  | [d1, d2] => { results := [.lit (.bool false)], args := [d1, d2] }
  | _ => none }
def FoldOfWrongFalsely : Prop := foldOfRow.holds Try.pinned (OpenSpec.ofChange foldOfWrong)

/-- 'seedcornlaw30.FoldMeans': WHATEVER THE INPUT: true; the input reads as it did. -/
def foldMeansSpec : ChangeSpec := { name := "foldMeans", fn := fun _ => fun
  | [d1, d2, d3] => { results := [.lit (.bool true)], args := [d1, d2, d3] }
  | _ => none }
def foldMeansRow : OpenClaim := { program := "ytkccdnincholpaa", sum := "eb21316d17aa95f9506cf4172508430c972aee2081cc8327589b3f0783fffb22", func := "seedcorn/seedcornlaw30.FoldMeans", spec := "foldMeans", recurses := true, apart := false }
def FoldMeansSaid : Prop := foldMeansRow.holds Try.pinned (OpenSpec.ofChange foldMeansSpec)

/-- ITS FALSE NEIGHBOUR: 'it returns false'. Refute it at one input. -/
def foldMeansWrong : ChangeSpec := { name := "foldMeans", fn := fun _ => fun
  | [d1, d2, d3] => { results := [.lit (.bool false)], args := [d1, d2, d3] }
  | _ => none }
def FoldMeansWrongFalsely : Prop := foldMeansRow.holds Try.pinned (OpenSpec.ofChange foldMeansWrong)

/-- 'seedcornlaw30.FoldTwice': WHATEVER THE INPUT: true; the input reads as it did. -/
def foldTwiceSpec : ChangeSpec := { name := "foldTwice", fn := fun _ => fun
  | [d1, d2] => { results := [.lit (.bool true)], args := [d1, d2] }
  | _ => none }
def foldTwiceRow : OpenClaim := { program := "ytkccdnincholpaa", sum := "eb21316d17aa95f9506cf4172508430c972aee2081cc8327589b3f0783fffb22", func := "seedcorn/seedcornlaw30.FoldTwice", spec := "foldTwice", apart := false }
def FoldTwiceSaid : Prop := foldTwiceRow.holds Try.pinned (OpenSpec.ofChange foldTwiceSpec)

/-- ITS FALSE NEIGHBOUR: 'it returns false'. Refute it at one input. -/
def foldTwiceWrong : ChangeSpec := { name := "foldTwice", fn := fun _ => fun
  | [d1, d2] => { results := [.lit (.bool false)], args := [d1, d2] }
  | _ => none }
def FoldTwiceWrongFalsely : Prop := foldTwiceRow.holds Try.pinned (OpenSpec.ofChange foldTwiceWrong)

/-- 'seedcornlaw30.FoldKnown': WHATEVER THE INPUT: true; the input reads as it did. -/
def foldKnownSpec : ChangeSpec := { name := "foldKnown", fn := fun _ => fun
  | [d1, d2, d3] => { results := [.lit (.bool true)], args := [d1, d2, d3] }
  | _ => none }
def foldKnownRow : OpenClaim := { program := "ytkccdnincholpaa", sum := "eb21316d17aa95f9506cf4172508430c972aee2081cc8327589b3f0783fffb22", func := "seedcorn/seedcornlaw30.FoldKnown", spec := "foldKnown", apart := false }
def FoldKnownSaid : Prop := foldKnownRow.holds Try.pinned (OpenSpec.ofChange foldKnownSpec)

/-- ITS FALSE NEIGHBOUR: 'it returns false'. Refute it at one input. -/
def foldKnownWrong : ChangeSpec := { name := "foldKnown", fn := fun _ => fun
  | [d1, d2, d3] => { results := [.lit (.bool false)], args := [d1, d2, d3] }
  | _ => none }
def FoldKnownWrongFalsely : Prop := foldKnownRow.holds Try.pinned (OpenSpec.ofChange foldKnownWrong)

/-- 'seedcornlaw30.FoldLocal': WHATEVER THE INPUT: true; the input reads as it did. -/
def foldLocalSpec : ChangeSpec := { name := "foldLocal", fn := fun _ => fun
  | [d1, d2, d3] => { results := [.lit (.bool true)], args := [d1, d2, d3] }
  | _ => none }
def foldLocalRow : OpenClaim := { program := "ytkccdnincholpaa", sum := "eb21316d17aa95f9506cf4172508430c972aee2081cc8327589b3f0783fffb22", func := "seedcorn/seedcornlaw30.FoldLocal", spec := "foldLocal", apart := false }
def FoldLocalSaid : Prop := foldLocalRow.holds Try.pinned (OpenSpec.ofChange foldLocalSpec)

/-- ITS FALSE NEIGHBOUR: 'it returns false'. Refute it at one input. -/
def foldLocalWrong : ChangeSpec := { name := "foldLocal", fn := fun _ => fun
  | [d1, d2, d3] => { results := [.lit (.bool false)], args := [d1, d2, d3] }
  | _ => none }
def FoldLocalWrongFalsely : Prop := foldLocalRow.holds Try.pinned (OpenSpec.ofChange foldLocalWrong)

/-- 'seedcornlaw30.FoldAll': WHATEVER THE INPUT: true; the input reads as it did. -/
def foldAllSpec : ChangeSpec := { name := "foldAll", fn := fun _ => fun
  | [d1, d2] => { results := [.lit (.bool true)], args := [d1, d2] }
  | _ => none }
def foldAllRow : OpenClaim := { program := "ytkccdnincholpaa", sum := "eb21316d17aa95f9506cf4172508430c972aee2081cc8327589b3f0783fffb22", func := "seedcorn/seedcornlaw30.FoldAll", spec := "foldAll", apart := false }
def FoldAllSaid : Prop := foldAllRow.holds Try.pinned (OpenSpec.ofChange foldAllSpec)

/-- ITS FALSE NEIGHBOUR: 'it returns false'. Refute it at one input. -/
def foldAllWrong : ChangeSpec := { name := "foldAll", fn := fun _ => fun
  | [d1, d2] => { results := [.lit (.bool false)], args := [d1, d2] }
  | _ => none }
def FoldAllWrongFalsely : Prop := foldAllRow.holds Try.pinned (OpenSpec.ofChange foldAllWrong)

/- THE SECOND FORM. 'bulk': how many values and letters a reading holds, each counted each time it is reached (what is shared counts as often as it is met; a slice's spare places count too). A statement '..UptoSaid' is the law's where the arguments, and the package variables that the reading takes, are together of bulk at most 1048576: NARROWER than '..Said'. Prove '..Said' where nothing that the law and all that it calls make is longer than what came in: it says more and counts as full. Else prove '..UptoSaid'. A law counts once. -/
mutual
def uptoBulk {H : Type} : DataW H → Nat
  | .lit (.string bytes) => bytes.length + 1
  | .lit _ => 1
  | .nil => 1
  | .ptr d => uptoBulk d + 1
  | .slice elems spare => uptoBulkAll elems + uptoBulkAll spare + 1
  | .agg parts => uptoBulkAll parts + 1
  | .iface _ d => uptoBulk d + 1
  | .map entries => uptoBulkEntries entries + 1
  | .held _ => 1
def uptoBulkAll {H : Type} : List (DataW H) → Nat
  | [] => 0
  | d :: r => uptoBulk d + uptoBulkAll r
def uptoBulkEntries {H : Type} : List (Lit × DataW H) → Nat
  | [] => 0
  | x :: r => uptoBulkEntry x + uptoBulkEntries r
def uptoBulkEntry {H : Type} : Lit × DataW H → Nat
  | (.string bytes, d) => bytes.length + uptoBulk d + 1
  | (_, d) => uptoBulk d + 1
 end
def uptoSmall : (H : Type) → List (DataW H) → Bool := fun _ ds => decide (uptoBulkAll ds ≤ 1048576)
def OpenSpec.upto (s : _root_.Go.ChangeSpec) : _root_.Go.OpenSpec := { _root_.Go.OpenSpec.ofChange s with cond := some uptoSmall }

/-- 'seedcornlaw30.FoldOf', WHERE WHAT IT READS IS OF BULK AT MOST 1048576: true; the input reads as it did. -/
def foldOfUptoRow : OpenClaim := { program := "ytkccdnincholpaa", sum := "eb21316d17aa95f9506cf4172508430c972aee2081cc8327589b3f0783fffb22", func := "seedcorn/seedcornlaw30.FoldOf", spec := "foldOf", apart := false, narrowed := true }
def FoldOfUptoSaid : Prop := foldOfUptoRow.holds Try.pinned (OpenSpec.upto foldOfSpec)

/-- 'seedcornlaw30.FoldMeans', WHERE WHAT IT READS IS OF BULK AT MOST 1048576: true; the input reads as it did. -/
def foldMeansUptoRow : OpenClaim := { program := "ytkccdnincholpaa", sum := "eb21316d17aa95f9506cf4172508430c972aee2081cc8327589b3f0783fffb22", func := "seedcorn/seedcornlaw30.FoldMeans", spec := "foldMeans", recurses := true, apart := false, narrowed := true }
def FoldMeansUptoSaid : Prop := foldMeansUptoRow.holds Try.pinned (OpenSpec.upto foldMeansSpec)

/-- 'seedcornlaw30.FoldTwice', WHERE WHAT IT READS IS OF BULK AT MOST 1048576: true; the input reads as it did. -/
def foldTwiceUptoRow : OpenClaim := { program := "ytkccdnincholpaa", sum := "eb21316d17aa95f9506cf4172508430c972aee2081cc8327589b3f0783fffb22", func := "seedcorn/seedcornlaw30.FoldTwice", spec := "foldTwice", apart := false, narrowed := true }
def FoldTwiceUptoSaid : Prop := foldTwiceUptoRow.holds Try.pinned (OpenSpec.upto foldTwiceSpec)

/-- 'seedcornlaw30.FoldKnown', WHERE WHAT IT READS IS OF BULK AT MOST 1048576: true; the input reads as it did. -/
def foldKnownUptoRow : OpenClaim := { program := "ytkccdnincholpaa", sum := "eb21316d17aa95f9506cf4172508430c972aee2081cc8327589b3f0783fffb22", func := "seedcorn/seedcornlaw30.FoldKnown", spec := "foldKnown", apart := false, narrowed := true }
def FoldKnownUptoSaid : Prop := foldKnownUptoRow.holds Try.pinned (OpenSpec.upto foldKnownSpec)

/-- 'seedcornlaw30.FoldLocal', WHERE WHAT IT READS IS OF BULK AT MOST 1048576: true; the input reads as it did. -/
def foldLocalUptoRow : OpenClaim := { program := "ytkccdnincholpaa", sum := "eb21316d17aa95f9506cf4172508430c972aee2081cc8327589b3f0783fffb22", func := "seedcorn/seedcornlaw30.FoldLocal", spec := "foldLocal", apart := false, narrowed := true }
def FoldLocalUptoSaid : Prop := foldLocalUptoRow.holds Try.pinned (OpenSpec.upto foldLocalSpec)

/-- 'seedcornlaw30.FoldAll', WHERE WHAT IT READS IS OF BULK AT MOST 1048576: true; the input reads as it did. -/
def foldAllUptoRow : OpenClaim := { program := "ytkccdnincholpaa", sum := "eb21316d17aa95f9506cf4172508430c972aee2081cc8327589b3f0783fffb22", func := "seedcorn/seedcornlaw30.FoldAll", spec := "foldAll", apart := false, narrowed := true }
def FoldAllUptoSaid : Prop := foldAllUptoRow.holds Try.pinned (OpenSpec.upto foldAllSpec)

end Rows
end Go.Proofs.Ytkccdnincholpaa
