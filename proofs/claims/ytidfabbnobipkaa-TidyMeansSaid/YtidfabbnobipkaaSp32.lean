/-
  WHAT THE WALK OF TidyTrue ASKS, IN PLAIN LEAN: own work, over no program.
-/
import Derived.Test.YtidfabbnobipkaaSp31
namespace Go.Proofs.Ytidfabbnobipkaa.Sv
open Go
set_option linter.unusedVariables false
set_option linter.unusedSimpArgs false
theorem small_insWZ {b : Blocks} (h : b.Ok) : b.insW := fun f hf x hx => BFunc.Ok.insW (h.funcs f hf) hx
theorem small_lenZ {b : Blocks} {most : Int} (hm : most ≤ 1000) (h : b.small most = true) : ∀ f ∈ b.funcs, ∀ x ∈ f.blocks, x.ins.length ≤ maxLen := fun f hf x hx => by
  have h1 := count_ins hf hx
  have h2 := (small_spec h).2.2.2.1
  simp only [maxLen]; omega
theorem put_mem {b : Blocks} {f g : BFunc} (h : g ∈ (b.put f).funcs) : g ∈ b.funcs ∨ g = f := by
  simp only [Blocks.put] at h
  exact List.mem_or_eq_of_mem_set h
theorem put_insW {b : Blocks} {f : BFunc} (h : b.insW) (hf : ∀ x ∈ f.blocks, Sv.insW x.ins) : (b.put f).insW := fun g hg x hx => by
  rcases put_mem hg with hg | rfl
  · exact h g hg x hx
  · exact hf x hx
theorem put_lens {b : Blocks} {f : BFunc} (h : ∀ g ∈ b.funcs, ∀ x ∈ g.blocks, x.ins.length ≤ maxLen) (hf : ∀ x ∈ f.blocks, x.ins.length ≤ 1000000000) : ∀ g ∈ (b.put f).funcs, ∀ x ∈ g.blocks, x.ins.length ≤ maxLen := fun g hg x hx => by
  rcases put_mem hg with hg | rfl
  · exact h g hg x hx
  · have := hf x hx; simp only [maxLen]; omega
def claimCells (b : Blocks) (f : BFunc) (p : List (List Int)) : List AV := [.int .i64 b.words, funcsAV b.funcs, .int .i64 f.regs, blocksAV f.blocks, pathsAV p]
theorem put_cells {b : Blocks} {f : BFunc} : (b.funcs.map BFunc.cells).set (b.funcs.length - 1) f.cells = (b.put f).funcs.map BFunc.cells := by
  simp [Blocks.put, List.map_set]
end Go.Proofs.Ytidfabbnobipkaa.Sv
