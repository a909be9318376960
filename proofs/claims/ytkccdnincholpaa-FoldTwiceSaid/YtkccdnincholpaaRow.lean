/-
  WHAT THE ROWS OF THIS SEAT HAVE IN COMMON: facts of the program, and how its types read: own work.
-/
import Derived.Test.YtkccdnincholpaaRows
import Derived.Test.YtkccdnincholpaaSp4
namespace Go.Proofs.Ytkccdnincholpaa
open Go.ChangeShapes Go.WideShapes Go.ChangeAt Go.RowKit Sv
set_option linter.unusedVariables false

theorem own' : ownKnob Try.prog.godebug = none := by kernel_rfl
theorem laidOut' : laidOutB Try.prog = true := by kernel_rfl
theorem bool' : Try.prog.underlying 4 = some .bool := by kernel_rfl

section
variable {H : Type} {enc : TypeId × Value → H} {W : World}
theorem decTac : Dec enc Try.prog W 48 Tac.cells Tac.Ok := dec_tac tok rfl rfl rfl rfl rfl rfl rfl rfl rfl
theorem decBlock : Dec enc Try.prog W 45 Block.cells Block.Ok := dec_block tok rfl rfl rfl rfl rfl rfl rfl rfl rfl rfl rfl rfl decTac
theorem decBFunc : Dec enc Try.prog W 29 BFunc.cells BFunc.Ok := dec_bfunc tok rfl rfl rfl rfl rfl rfl rfl rfl rfl rfl rfl rfl decBlock
theorem decBlocks : Dec enc Try.prog W 24 Blocks.cells Blocks.Ok := dec_blocks tok rfl rfl rfl rfl rfl rfl rfl rfl rfl rfl rfl rfl decBFunc
end

end Go.Proofs.Ytkccdnincholpaa
