/-
  No cell of these rows narrows 'for every input' (looked for: loops, veiled, ifaces, maps, wideKeys, modest, calm, conditions, laid).
  DERIVED. THE GIVEN ROWS OF THIS SEAT. 7 by the template 'for every input the law returns true; each argument reads behind the call as it read before'; 0 by the template 'total and deterministic' (their statements: YtophfphgcbnafaaTotals.lean).
  GIVEN WITH THE SEED: the statements are not yours to turn. If you find one false, say at which input.
  Laid BY PROGRAM, IN A SANDBOX (cutbox-rows.mjs): the forced cells as the released guide's own fill.sh prints them over the translation 60c0bf85cc715149… (all of the seat's roots in one cut). By AI agents, Wed Nov 11 2026. No macro, syntax, notation, axiom, sorry.
-/
import Derived.Test.YtophfphgcbnafaaChecked
import GoSem.Claim
import GoSem.ClaimJoined
import GoSem.ClaimMapViews
import Derived.JoinedTies
import Derived.KernelRfl
namespace Go.Proofs.Ytophfphgcbnafaa
/- THE CELL 'sum', in the pinned program and in every row, IS THE sha256 OF THE DUMP (.gsa) THAT YtophfphgcbnafaaProg.lean LOADS. Nothing in Lean hashes anything: it is a label: what it is worth is what the hold of that sum in a sandbox is worth. -/
noncomputable def Try.pinned : Pinned := { name := "ytophfphgcbnafaa", sum := "60c0bf85cc71514900801eea9c55114ecffa6a6368a244d80d896174c5da95a0", checked := Try.checked }
namespace Rows
def none {H : Type} : Left H := { results := [], args := [] }

/-- 'seedcornlaw24.BlockRuns': WHATEVER THE INPUT: true; the input reads as it did. -/
def blockRunsSpec : ChangeSpec := { name := "blockRuns", fn := fun _ => fun
  | [d1, d2, d3] => { results := [.lit (.bool true)], args := [d1, d2, d3] }
  | _ => none }
def blockRunsRow : OpenClaim := { program := "ytophfphgcbnafaa", sum := "60c0bf85cc71514900801eea9c55114ecffa6a6368a244d80d896174c5da95a0", func := "seedcorn/seedcornlaw24.BlockRuns", spec := "blockRuns", recurses := true, apart := false }
def BlockRunsSaid : Prop := blockRunsRow.holds Try.pinned (OpenSpec.ofChange blockRunsSpec)

/-- ITS FALSE NEIGHBOUR: 'it returns false'. Refute it at one input. -/
def blockRunsWrong : ChangeSpec := { name := "blockRuns", fn := fun _ => fun
  | [d1, d2, d3] => { results := [.lit (.bool false)], args := [d1, d2, d3] }
  | _ => none }
def BlockRunsWrongFalsely : Prop := blockRunsRow.holds Try.pinned (OpenSpec.ofChange blockRunsWrong)

/-- 'seedcornlaw24.BlockFuel': WHATEVER THE INPUT: true; the input reads as it did. -/
def blockFuelSpec : ChangeSpec := { name := "blockFuel", fn := fun _ => fun
  | [d1, d2, d3] => { results := [.lit (.bool true)], args := [d1, d2, d3] }
  | _ => none }
def blockFuelRow : OpenClaim := { program := "ytophfphgcbnafaa", sum := "60c0bf85cc71514900801eea9c55114ecffa6a6368a244d80d896174c5da95a0", func := "seedcorn/seedcornlaw24.BlockFuel", spec := "blockFuel", apart := false }
def BlockFuelSaid : Prop := blockFuelRow.holds Try.pinned (OpenSpec.ofChange blockFuelSpec)

/-- ITS FALSE NEIGHBOUR: 'it returns false'. Refute it at one input. -/
def blockFuelWrong : ChangeSpec := { name := "blockFuel", fn := fun _ => fun
  | [d1, d2, d3] => { results := [.lit (.bool false)], args := [d1, d2, d3] }
  | _ => none }
def BlockFuelWrongFalsely : Prop := blockFuelRow.holds Try.pinned (OpenSpec.ofChange blockFuelWrong)

/-- 'seedcornlaw24.BlockRenames': WHATEVER THE INPUT: true; the input reads as it did. -/
def blockRenamesSpec : ChangeSpec := { name := "blockRenames", fn := fun _ => fun
  | [d1, d2, d3] => { results := [.lit (.bool true)], args := [d1, d2, d3] }
  | _ => none }
def blockRenamesRow : OpenClaim := { program := "ytophfphgcbnafaa", sum := "60c0bf85cc71514900801eea9c55114ecffa6a6368a244d80d896174c5da95a0", func := "seedcorn/seedcornlaw24.BlockRenames", spec := "blockRenames", apart := false }
def BlockRenamesSaid : Prop := blockRenamesRow.holds Try.pinned (OpenSpec.ofChange blockRenamesSpec)

/-- ITS FALSE NEIGHBOUR: 'it returns false'. Refute it at one input. -/
def blockRenamesWrong : ChangeSpec := { name := "blockRenames", fn := fun _ => fun
  | [d1, d2, d3] => { results := [.lit (.bool false)], args := [d1, d2, d3] }
  | _ => none }
def BlockRenamesWrongFalsely : Prop := blockRenamesRow.holds Try.pinned (OpenSpec.ofChange blockRenamesWrong)

/-- 'seedcornlaw24.BlockIdles': WHATEVER THE INPUT: true; the input reads as it did. -/
def blockIdlesSpec : ChangeSpec := { name := "blockIdles", fn := fun _ => fun
  | [d1, d2, d3] => { results := [.lit (.bool true)], args := [d1, d2, d3] }
  | _ => none }
def blockIdlesRow : OpenClaim := { program := "ytophfphgcbnafaa", sum := "60c0bf85cc71514900801eea9c55114ecffa6a6368a244d80d896174c5da95a0", func := "seedcorn/seedcornlaw24.BlockIdles", spec := "blockIdles", apart := false }
def BlockIdlesSaid : Prop := blockIdlesRow.holds Try.pinned (OpenSpec.ofChange blockIdlesSpec)

/-- ITS FALSE NEIGHBOUR: 'it returns false'. Refute it at one input. -/
def blockIdlesWrong : ChangeSpec := { name := "blockIdles", fn := fun _ => fun
  | [d1, d2, d3] => { results := [.lit (.bool false)], args := [d1, d2, d3] }
  | _ => none }
def BlockIdlesWrongFalsely : Prop := blockIdlesRow.holds Try.pinned (OpenSpec.ofChange blockIdlesWrong)

/-- 'seedcornlaw24.BlockSplits': WHATEVER THE INPUT: true; the input reads as it did. -/
def blockSplitsSpec : ChangeSpec := { name := "blockSplits", fn := fun _ => fun
  | [d1, d2, d3] => { results := [.lit (.bool true)], args := [d1, d2, d3] }
  | _ => none }
def blockSplitsRow : OpenClaim := { program := "ytophfphgcbnafaa", sum := "60c0bf85cc71514900801eea9c55114ecffa6a6368a244d80d896174c5da95a0", func := "seedcorn/seedcornlaw24.BlockSplits", spec := "blockSplits", apart := false }
def BlockSplitsSaid : Prop := blockSplitsRow.holds Try.pinned (OpenSpec.ofChange blockSplitsSpec)

/-- ITS FALSE NEIGHBOUR: 'it returns false'. Refute it at one input. -/
def blockSplitsWrong : ChangeSpec := { name := "blockSplits", fn := fun _ => fun
  | [d1, d2, d3] => { results := [.lit (.bool false)], args := [d1, d2, d3] }
  | _ => none }
def BlockSplitsWrongFalsely : Prop := blockSplitsRow.holds Try.pinned (OpenSpec.ofChange blockSplitsWrong)

/-- 'seedcornlaw24.BlockTacs': WHATEVER THE INPUT: true; the input reads as it did. -/
def blockTacsSpec : ChangeSpec := { name := "blockTacs", fn := fun _ => fun
  | [d] => { results := [.lit (.bool true)], args := [d] }
  | _ => none }
def blockTacsRow : OpenClaim := { program := "ytophfphgcbnafaa", sum := "60c0bf85cc71514900801eea9c55114ecffa6a6368a244d80d896174c5da95a0", func := "seedcorn/seedcornlaw24.BlockTacs", spec := "blockTacs", apart := false }
def BlockTacsSaid : Prop := blockTacsRow.holds Try.pinned (OpenSpec.ofChange blockTacsSpec)

/-- ITS FALSE NEIGHBOUR: 'it returns false'. Refute it at one input. -/
def blockTacsWrong : ChangeSpec := { name := "blockTacs", fn := fun _ => fun
  | [d] => { results := [.lit (.bool false)], args := [d] }
  | _ => none }
def BlockTacsWrongFalsely : Prop := blockTacsRow.holds Try.pinned (OpenSpec.ofChange blockTacsWrong)

/-- 'seedcornlaw24.BlockKept': WHATEVER THE INPUT: true; the input reads as it did. -/
def blockKeptSpec : ChangeSpec := { name := "blockKept", fn := fun _ => fun
  | [d1, d2] => { results := [.lit (.bool true)], args := [d1, d2] }
  | _ => none }
def blockKeptRow : OpenClaim := { program := "ytophfphgcbnafaa", sum := "60c0bf85cc71514900801eea9c55114ecffa6a6368a244d80d896174c5da95a0", func := "seedcorn/seedcornlaw24.BlockKept", spec := "blockKept", apart := false }
def BlockKeptSaid : Prop := blockKeptRow.holds Try.pinned (OpenSpec.ofChange blockKeptSpec)

/-- ITS FALSE NEIGHBOUR: 'it returns false'. Refute it at one input. -/
def blockKeptWrong : ChangeSpec := { name := "blockKept", fn := fun _ => fun
  | [d1, d2] => { results := [.lit (.bool false)], args := [d1, d2] }
  | _ => none }
def BlockKeptWrongFalsely : Prop := blockKeptRow.holds Try.pinned (OpenSpec.ofChange blockKeptWrong)

/- THE SECOND FORM. 'bulk': how many values and letters a reading holds, each counted each time it is reached (what is shared counts as often as it is met; a slice's spare places count too). A statement '..UptoSaid' is the law's where the arguments, and the package variables that the reading takes, are together of bulk at most 1048576: NARROWER than '..Said'. Prove '..Said' where nothing that the law and all that it calls make is longer than what came in: it says more and counts as full. Else prove '..UptoSaid'. A law counts once. -/
mutual
def uptoBulk {H : Type} : DataW H → Nat
  | .lit (.string bytes) => bytes.length + 1
  | .lit _ => 1
  | .nil => 1
  | .ptr d => uptoBulk d + 1
  | .slice elems spare => uptoBulkAll elems + uptoBulkAll spare + 1
  | .agg parts => uptoBulkAll parts + 1
  | .iface _ d => uptoBulk d + 1
  | .map entries => uptoBulkEntries entries + 1
  | .held _ => 1
def uptoBulkAll {H : Type} : List (DataW H) → Nat
  | [] => 0
  | d :: r => uptoBulk d + uptoBulkAll r
def uptoBulkEntries {H : Type} : List (Lit × DataW H) → Nat
  | [] => 0
  | x :: r => uptoBulkEntry x + uptoBulkEntries r
def uptoBulkEntry {H : Type} : Lit × DataW H → Nat
  | (.string bytes, d) => bytes.length + uptoBulk d + 1
  | (_, d) => uptoBulk d + 1
 end
def uptoSmall : (H : Type) → List (DataW H) → Bool := fun _ ds => decide (uptoBulkAll ds ≤ 1048576)
def OpenSpec.upto (s : _root_.Go.ChangeSpec) : _root_.Go.OpenSpec := { _root_.Go.OpenSpec.ofChange s with cond := some uptoSmall }

/-- 'seedcornlaw24.BlockRuns', WHERE WHAT IT READS IS OF BULK AT MOST 1048576: true; the input reads as it did. -/
def blockRunsUptoRow : OpenClaim := { program := "ytophfphgcbnafaa", sum := "60c0bf85cc71514900801eea9c55114ecffa6a6368a244d80d896174c5da95a0", func := "seedcorn/seedcornlaw24.BlockRuns", spec := "blockRuns", recurses := true, apart := false, narrowed := true }
def BlockRunsUptoSaid : Prop := blockRunsUptoRow.holds Try.pinned (OpenSpec.upto blockRunsSpec)

/-- 'seedcornlaw24.BlockFuel', WHERE WHAT IT READS IS OF BULK AT MOST 1048576: true; the input reads as it did. -/
def blockFuelUptoRow : OpenClaim := { program := "ytophfphgcbnafaa", sum := "60c0bf85cc71514900801eea9c55114ecffa6a6368a244d80d896174c5da95a0", func := "seedcorn/seedcornlaw24.BlockFuel", spec := "blockFuel", apart := false, narrowed := true }
def BlockFuelUptoSaid : Prop := blockFuelUptoRow.holds Try.pinned (OpenSpec.upto blockFuelSpec)

/-- 'seedcornlaw24.BlockRenames', WHERE WHAT IT READS IS OF BULK AT MOST 1048576: true; the input reads as it did. -/
def blockRenamesUptoRow : OpenClaim := { program := "ytophfphgcbnafaa", sum := "60c0bf85cc71514900801eea9c55114ecffa6a6368a244d80d896174c5da95a0", func := "seedcorn/seedcornlaw24.BlockRenames", spec := "blockRenames", apart := false, narrowed := true }
def BlockRenamesUptoSaid : Prop := blockRenamesUptoRow.holds Try.pinned (OpenSpec.upto blockRenamesSpec)

/-- 'seedcornlaw24.BlockIdles', WHERE WHAT IT READS IS OF BULK AT MOST 1048576: true; the input reads as it did. -/
def blockIdlesUptoRow : OpenClaim := { program := "ytophfphgcbnafaa", sum := "60c0bf85cc71514900801eea9c55114ecffa6a6368a244d80d896174c5da95a0", func := "seedcorn/seedcornlaw24.BlockIdles", spec := "blockIdles", apart := false, narrowed := true }
def BlockIdlesUptoSaid : Prop := blockIdlesUptoRow.holds Try.pinned (OpenSpec.upto blockIdlesSpec)

/-- 'seedcornlaw24.BlockSplits', WHERE WHAT IT READS IS OF BULK AT MOST 1048576: true; the input reads as it did. -/
def blockSplitsUptoRow : OpenClaim := { program := "ytophfphgcbnafaa", sum := "60c0bf85cc71514900801eea9c55114ecffa6a6368a244d80d896174c5da95a0", func := "seedcorn/seedcornlaw24.BlockSplits", spec := "blockSplits", apart := false, narrowed := true }
def BlockSplitsUptoSaid : Prop := blockSplitsUptoRow.holds Try.pinned (OpenSpec.upto blockSplitsSpec)

/-- 'seedcornlaw24.BlockTacs', WHERE WHAT IT READS IS OF BULK AT MOST 1048576: true; the input reads as it did. -/
def blockTacsUptoRow : OpenClaim := { program := "ytophfphgcbnafaa", sum := "60c0bf85cc71514900801eea9c55114ecffa6a6368a244d80d896174c5da95a0", func := "seedcorn/seedcornlaw24.BlockTacs", spec := "blockTacs", apart := false, narrowed := true }
def BlockTacsUptoSaid : Prop := blockTacsUptoRow.holds Try.pinned (OpenSpec.upto blockTacsSpec)

/-- 'seedcornlaw24.BlockKept', WHERE WHAT IT READS IS OF BULK AT MOST 1048576: true; the input reads as it did. -/
def blockKeptUptoRow : OpenClaim := { program := "ytophfphgcbnafaa", sum := "60c0bf85cc71514900801eea9c55114ecffa6a6368a244d80d896174c5da95a0", func := "seedcorn/seedcornlaw24.BlockKept", spec := "blockKept", apart := false, narrowed := true }
def BlockKeptUptoSaid : Prop := blockKeptUptoRow.holds Try.pinned (OpenSpec.upto blockKeptSpec)

end Rows
end Go.Proofs.Ytophfphgcbnafaa
