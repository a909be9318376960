/-
  WHAT THE ROWS OF THIS SEAT HAVE IN COMMON: facts of the program, and how its types read: own work.
-/
import Derived.Test.YtidfabbnobipkaaRows
import Derived.Test.YtidfabbnobipkaaSp4
namespace Go.Proofs.Ytidfabbnobipkaa
open Go.ChangeShapes Go.WideShapes Go.ChangeAt Go.RowKit Sv
set_option linter.unusedVariables false

theorem own' : ownKnob Try.prog.godebug = none := by kernel_rfl
theorem laidOut' : laidOutB Try.prog = true := by kernel_rfl
theorem bool' : Try.prog.underlying 4 = some .bool := by kernel_rfl

theorem okWide_cell {P : Program} {W : World} {T : Nat → Option TyI} {t u b0 : Nat} {v : Value} {i : TyI} (hT : TOk P T) (hi : T t = some i) (hk : i.k = .slice u) (h : Value.okWide P W .any b0 t v) : ∀ cs, v ≠ .agg cs := by
  obtain ⟨info, d, e1, e2, e3, e4, e5, e6⟩ := tyOf_spec (hT _ _ hi)
  have hd := tk_slice (P := P) (d := d) (e3 ▸ hk)
  subst hd
  obtain ⟨a, len, cap, rfl⟩ := okWide_slice e2 h
  intro cs h
  cases h

section
variable {H : Type} {enc : TypeId × Value → H} {W : World}
theorem decTac : Dec enc Try.prog W 57 Tac.cells Tac.Ok := dec_tac tok rfl rfl rfl rfl rfl rfl rfl rfl rfl
theorem decBlock : Dec enc Try.prog W 59 Block.cells Block.Ok := dec_block tok rfl rfl rfl rfl rfl rfl rfl rfl rfl rfl rfl rfl decTac
theorem decBFunc : Dec enc Try.prog W 29 BFunc.cells BFunc.Ok := dec_bfunc tok rfl rfl rfl rfl rfl rfl rfl rfl rfl rfl rfl rfl decBlock
theorem decBlocks : Dec enc Try.prog W 24 Blocks.cells Blocks.Ok := dec_blocks tok rfl rfl rfl rfl rfl rfl rfl rfl rfl rfl rfl rfl decBFunc
theorem decBytes : Dec enc Try.prog W 53 (fun l : List Int => [.lst false (l.map fun n => [.int .u8 n])]) (fun l => l.length * 1 ≤ reachBytes ∧ ∀ n ∈ l, (Lit.int .u8 n).wf = true) := Dec.slice' (j := ty5) tok rfl rfl rfl (Nat.zero_lt_succ _) (Dec.int' tok rfl rfl)
theorem decWords : Dec enc Try.prog W 74 (fun l : List Int => [.lst false (l.map fun n => [.int .u32 n])]) (fun l => l.length * 4 ≤ reachBytes ∧ ∀ n ∈ l, (Lit.int .u32 n).wf = true) := Dec.slice' (j := ty55) tok rfl rfl rfl (Nat.zero_lt_succ _) (Dec.int' tok rfl rfl)
end

end Go.Proofs.Ytidfabbnobipkaa
