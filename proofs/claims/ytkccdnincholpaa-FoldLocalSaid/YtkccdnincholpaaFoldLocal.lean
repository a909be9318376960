/-
  FoldLocal: THE ROW: own work.
-/
import Derived.Test.YtkccdnincholpaaRows
import Derived.Test.YtkccdnincholpaaSw5
namespace Go.Proofs.Ytkccdnincholpaa
open Go.ChangeShapes Go.WideShapes Go.ChangeAt Go.RowKit Sv
set_option linter.unusedVariables false

theorem own' : ownKnob Try.prog.godebug = none := by kernel_rfl
theorem laidOut' : laidOutB Try.prog = true := by kernel_rfl
theorem bool' : Try.prog.underlying 4 = some .bool := by kernel_rfl

section
variable {H : Type} {enc : TypeId × Value → H} {W : World}
theorem decTac : Dec enc Try.prog W 48 Tac.cells Tac.Ok := dec_tac tok rfl rfl rfl rfl rfl rfl rfl rfl rfl
theorem decBlock : Dec enc Try.prog W 45 Block.cells Block.Ok := dec_block tok rfl rfl rfl rfl rfl rfl rfl rfl rfl rfl rfl rfl decTac
theorem decBFunc : Dec enc Try.prog W 29 BFunc.cells BFunc.Ok := dec_bfunc tok rfl rfl rfl rfl rfl rfl rfl rfl rfl rfl rfl rfl decBlock
theorem decBlocks : Dec enc Try.prog W 24 Blocks.cells Blocks.Ok := dec_blocks tok rfl rfl rfl rfl rfl rfl rfl rfl rfl rfl rfl rfl decBFunc
end

set_option maxRecDepth 100000 in
theorem foldLocal_lifted (os : Os) (started : os.Started) (H : Type) (enc : TypeId × Value → H) :
    ReturnsInHanded {} Try.checked os 7 .any (Rows.foldLocalSpec.pre6 enc Try.prog Try.f7 Rows.foldLocalRow.domain false) (Rows.foldLocalSpec.post enc Try.prog Try.f7 false true false false) := by
  refine returnsInHanded_of_change_sized (C := Try.checked) own' started (by kernel_rfl) Try.func7
    (ChangeSpec.witness6 (enc := enc) (C := Try.checked) false ⟨#[], #[.agg #[.int .i64 0, .slice none 0 0], .int .u8 0, .int .u8 0], []⟩ 8 (by kernel_rfl) (by kernel_rfl) (by kernel_rfl) (by kernel_rfl)) ?_
  intro W base args ds gs before hval0 hW hcnd hwt0 hh
  have hval : ∀ (j : Nat) t v, Try.f7.params[j]? = some t → args[j]? = some v → Value.okWide Try.prog W .any base t v := hval0
  have hW' := hW
  obtain ⟨p, q, hA0, hV, rfl, hfz, hnd⟩ := hW
  have hA : DataW.TrodAll enc Try.prog W 0 (fun _ => true) true Try.f7.params.toList args.toList ds p := hA0
  have hwt : (DataW.weightsEach Try.prog (Try.f7.params.toList ++ Rows.foldLocalSpec.plain.varTypes Try.prog) (ds ++ gs)).all (· ≤ reachBytes) = true := hwt0
  rw [Try.params7] at hA hval hwt
  obtain ⟨v0, vs0, d0, ds0, p0, q0, hargs, rfl, rfl, h0, r0⟩ := trodAll_cons hA
  obtain ⟨v1, vs1, d1, ds1, p1, q1, rfl, rfl, rfl, h1, r1⟩ := trodAll_cons r0
  obtain ⟨v2, vs2, d2, ds2, p2, q2, rfl, rfl, rfl, h2, r2⟩ := trodAll_cons r1
  obtain ⟨rfl, rfl, rfl⟩ := trodAll_nil r2
  obtain rfl : args = #[v0, v1, v2] := by cases args; simp_all
  obtain ⟨rfl, rfl⟩ := trodVars_none hV
  obtain ⟨b, hb1, hb2⟩ := arg_one h0 (weightsEach_get hwt (i := 0) rfl rfl) decBlocks
  obtain ⟨i, rfl, rfl, rfl, wi⟩ := open_int Try.underlying5 (hval 1 5 v1 rfl rfl) h1
  obtain ⟨k, rfl, rfl, rfl, wk⟩ := open_int Try.underlying5 (hval 2 5 v2 rfl rfl) h2
  exact law_calls laidOut' rfl (by kernel_rfl) rfl bool' rfl rfl rfl hW' (.cons (hb1.val (okWide_agg tok rfl rfl (hval 0 24 v0 rfl rfl))) (.cons (.int _ _ _) (.cons (.int _ _ _) .nil))) (foldLocal_ok b i k hb2 (wf_u8 wi) (wf_u8 wk))

theorem foldLocal_holds : Rows.FoldLocalSaid :=
  OpenClaim.holds_of_wide 7 Try.f7 rfl rfl rfl rfl rfl rfl rfl ⟨rfl, rfl, rfl, rfl, rfl⟩ rfl rfl rfl rfl rfl (by kernel_rfl) Try.func7 (by kernel_rfl)
    (of_decide_eq_true (by kernel_rfl)) (by unfold Func.isWrapper; first | (rw [if_pos (by decide +kernel)]; kernel_rfl) | (rw [if_neg (by decide +kernel)]; exact ⟨rfl, rfl⟩))
    (fun os started H enc _ => foldLocal_lifted os started H enc)

end Go.Proofs.Ytkccdnincholpaa
