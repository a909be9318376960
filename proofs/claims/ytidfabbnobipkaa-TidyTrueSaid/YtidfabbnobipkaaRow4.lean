/-
  How lists of lists of numbers read: own work.
-/
import Derived.Test.YtidfabbnobipkaaRow
import Derived.Test.YtidfabbnobipkaaSp28
namespace Go.Proofs.Ytidfabbnobipkaa
open Go.ChangeShapes Go.WideShapes Go.ChangeAt Go.RowKit Sv
set_option linter.unusedVariables false
section
variable {H : Type} {enc : TypeId × Value → H} {W : World}
theorem decInts : Dec enc Try.prog W 52 (fun l : List Int => [intsAV l]) (fun l => l.length * 8 ≤ reachBytes ∧ ∀ n ∈ l, (Lit.int .i64 n).wf = true) := Dec.slice' (j := ty3) tok rfl rfl rfl (Nat.zero_lt_succ _) (Dec.int' tok rfl rfl)
theorem decPaths : Dec enc Try.prog W 30 (fun l : List (List Int) => [pathsAV l]) pathsOk := fun fuel cs x h hw => by
  obtain ⟨l, h1, h2⟩ := Dec.slice' (j := ty52) tok rfl rfl rfl (Nat.zero_lt_succ _) decInts fuel cs x h hw
  exact ⟨l, h1, h2.1, fun p hp => (h2.2 p hp).1⟩
end
end Go.Proofs.Ytidfabbnobipkaa
