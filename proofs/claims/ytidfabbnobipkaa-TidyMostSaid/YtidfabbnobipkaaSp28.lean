/-
  WHAT THE LAWS' GUARDS SAY, IN PLAIN LEAN: own work, over no program.
-/
import Derived.Test.YtidfabbnobipkaaSp27
namespace Go.Proofs.Ytidfabbnobipkaa.Sv
open Go
set_option linter.unusedVariables false
set_option linter.unusedSimpArgs false
theorem BFunc.Ok.tight {f : BFunc} (h : f.Ok) : f.tight := fun x hx => by
  have := (h.blocks x hx).len
  simp only [reachBytes] at this
  show x.ins.length ≤ big
  simp only [big]; omega
theorem few_ins {f : BFunc} {b m : Int} (h : f.few b m = true) (hm : m ≤ 1000) : ∀ x ∈ f.blocks, x.ins.length ≤ 1000000000 := fun x hx => by
  have := ins_le hx
  have := (few_spec h).2
  omega
/-- lists of numbers, as they come in -/
def pathsOk (l : List (List Int)) : Prop := l.length * 24 ≤ reachBytes ∧ ∀ p ∈ l, p.length * 8 ≤ reachBytes
theorem pathsOk.len {l : List (List Int)} (h : pathsOk l) : l.length ≤ 10000000000000 ∧ ∀ p ∈ l, p.length ≤ big := by
  have h1 := h.1
  simp only [reachBytes] at h1
  refine ⟨?_, fun p hp => ?_⟩
  · have : l.length * 24 ≤ 140737488351232 := h1
    by_cases e : l.length ≤ 10000000000000
    · exact e
    · exfalso; omega
  · have h2 := h.2 p hp
    simp only [reachBytes] at h2
    simp only [big]; omega
theorem smallP_spec {l : List (List Int)} {r m : Int} (h : smallP l r m = true) (hm : m ≤ 1000) : (l.length : Int) ≤ r ∧ ∀ p ∈ l, p.length ≤ 1000 := by
  simp only [smallP, Bool.and_eq_true, decide_eq_true_eq] at h
  exact ⟨h.1, fun p hp => by have := path_le hp; omega⟩
end Go.Proofs.Ytidfabbnobipkaa.Sv
