/-
  How a program with a function and paths reads: own work.
-/
import Derived.Test.YtidfabbnobipkaaRow3
import Derived.Test.YtidfabbnobipkaaRow4
import Derived.Test.YtidfabbnobipkaaLw9
namespace Go.Proofs.Ytidfabbnobipkaa
open Go.ChangeShapes Go.WideShapes Go.ChangeAt Go.RowKit Sv
set_option linter.unusedVariables false
structure Claim1 where
  b : Blocks
  f : BFunc
  p : List (List Int)
def Claim1.cells (x : Claim1) : List AV := claimCells x.b x.f x.p
def Claim1.Ok (x : Claim1) : Prop := x.b.Ok ∧ x.f.Ok ∧ pathsOk x.p
section
variable {H : Type} {enc : TypeId × Value → H} {W : World}
theorem decClaim : Dec enc Try.prog W 46 Claim1.cells Claim1.Ok := fun fuel cs x h hw => by
  obtain ⟨hl, hp⟩ := struct_parts tok (i := ty46) rfl rfl h hw
  have hl' : cs.length = 5 := hl
  obtain ⟨x0, a0, b0⟩ := hp 0 _ _ rfl decBlocks
  obtain ⟨x1, a1, b1⟩ := hp 1 _ _ rfl decBFunc
  obtain ⟨x2, a2, b2⟩ := hp 2 _ _ rfl decPaths
  have c0 := app1 tok (n := 2) rfl rfl (Reads.nil W cs) a0 (by omega)
  have c1 := app1 tok (n := 2) rfl rfl c0 a1 (by omega)
  have c2 := app1 tok (n := 1) rfl rfl c1 a2 (by omega)
  exact ⟨⟨x0, x1, x2⟩, c2.all hl', ⟨b0, b1, b2⟩⟩
end
theorem tidyTrue_claim (x : Claim1) (s : ByteArray) (fuel : Int) (h : x.Ok) (hfu : 0 ≤ fuel ∧ fuel ≤ 255) : APure Try.prog 6 [.agg x.cells, .str s, .int .u8 fuel] (fun r => r = .bool true) := tidyTrue_ok x.b x.f x.p s fuel h.1 h.2.1 h.2.2 hfu
end Go.Proofs.Ytidfabbnobipkaa
