/-
  How three functions and two lists of paths read: own work.
-/
import Derived.Test.YtidfabbnobipkaaRow4
import Derived.Test.YtidfabbnobipkaaLw8
namespace Go.Proofs.Ytidfabbnobipkaa
open Go.ChangeShapes Go.WideShapes Go.ChangeAt Go.RowKit Sv
set_option linter.unusedVariables false
structure Two1 where
  a : BFunc
  b : BFunc
  c : BFunc
  p : List (List Int)
  q : List (List Int)
def Two1.cells (x : Two1) : List AV := twoCells x.a x.b x.c x.p x.q
def Two1.Ok (x : Two1) : Prop := x.a.Ok ∧ x.b.Ok ∧ x.c.Ok ∧ pathsOk x.p ∧ pathsOk x.q
section
variable {H : Type} {enc : TypeId × Value → H} {W : World}
theorem decTwo : Dec enc Try.prog W 62 Two1.cells Two1.Ok := fun fuel cs x h hw => by
  obtain ⟨hl, hp⟩ := struct_parts tok (i := ty62) rfl rfl h hw
  have hl' : cs.length = 8 := hl
  obtain ⟨x0, a0, b0⟩ := hp 0 _ _ rfl decBFunc
  obtain ⟨x1, a1, b1⟩ := hp 1 _ _ rfl decBFunc
  obtain ⟨x2, a2, b2⟩ := hp 2 _ _ rfl decBFunc
  obtain ⟨x3, a3, b3⟩ := hp 3 _ _ rfl decPaths
  obtain ⟨x4, a4, b4⟩ := hp 4 _ _ rfl decPaths
  have c0 := app1 tok (n := 2) rfl rfl (Reads.nil W cs) a0 (by omega)
  have c1 := app1 tok (n := 2) rfl rfl c0 a1 (by omega)
  have c2 := app1 tok (n := 2) rfl rfl c1 a2 (by omega)
  have c3 := app1 tok (n := 1) rfl rfl c2 a3 (by omega)
  have c4 := app1 tok (n := 1) rfl rfl c3 a4 (by omega)
  exact ⟨⟨x0, x1, x2, x3, x4⟩, c4.all hl', ⟨b0, b1, b2, b3, b4⟩⟩
end
theorem tidyJoined_two (x : Two1) (h : x.Ok) : APure Try.prog 10 [.agg x.cells] (fun r => r = .bool true) := tidyJoined_ok x.a x.b x.c x.p x.q h.1 h.2.1 h.2.2.1 h.2.2.2.1 h.2.2.2.2
end Go.Proofs.Ytidfabbnobipkaa
