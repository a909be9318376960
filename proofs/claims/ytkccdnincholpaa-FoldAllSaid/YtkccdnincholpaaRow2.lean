/-
  How [4]uint8 reads: own work.
-/
import Derived.Test.YtkccdnincholpaaRow
import Derived.Test.YtkccdnincholpaaSp7
namespace Go.Proofs.Ytkccdnincholpaa
open Go.ChangeShapes Go.WideShapes Go.ChangeAt Go.RowKit Sv
set_option linter.unusedVariables false
theorem wf_b {n : Int} (h : (Lit.int .u8 n).wf = true) : isB n := wf_u8 h
section
variable {H : Type} {enc : TypeId × Value → H} {W : World}
theorem decQuad : Dec enc Try.prog W 58 Quad.cells Quad.Ok := fun fuel cs x h hw => by
  have ht : Try.prog.underlying 58 = some (.array 4 5) := by kernel_rfl
  have hc : Try.prog.cellsOf 5 = 1 := by kernel_rfl
  have hct : Try.prog.cellsOf 58 = 4 := by kernel_rfl
  obtain ⟨xs, m, rfl, rfl, hl, hxl, hx⟩ := DataW.trod_array ht h
  rw [hct] at hl
  simp only [DataW.weights, ht] at hw
  have key : ∀ i, i < 4 → ∃ n : Int, Reads W ((cs.drop i).take 1) [.int .u8 n] ∧ (Lit.int .u8 n).wf = true := fun i hi => by
    have h1 := hx i hi
    rw [hc, Nat.mul_one, List.getElem?_eq_getElem (by omega)] at h1
    exact Dec.int' (k := .u8) tok rfl rfl _ _ _ h1 (weightsAll_get hw (i := i) (by rw [List.getElem?_map, List.getElem?_eq_getElem (by omega)]; rfl))
  obtain ⟨a, a1, a2⟩ := key 0 (by omega)
  obtain ⟨b, b1, b2⟩ := key 1 (by omega)
  obtain ⟨c, c1, c2⟩ := key 2 (by omega)
  obtain ⟨d, d1, d2⟩ := key 3 (by omega)
  exact ⟨⟨a, b, c, d⟩, ((((Reads.nil W cs).app a1 (by omega)).app b1 (by omega)).app c1 (by omega)).app d1 (by omega) |>.all hl, ⟨wf_b a2, wf_b b2, wf_b c2, wf_b d2⟩⟩
theorem decQuads : Dec enc Try.prog W 56 (fun l : List Quad => [.lst false (l.map Quad.cells)]) (fun l => l.length * 4 ≤ reachBytes ∧ ∀ q ∈ l, q.Ok) := Dec.slice' (j := ty58) tok rfl rfl rfl (Nat.zero_lt_succ _) decQuad
end
end Go.Proofs.Ytkccdnincholpaa
