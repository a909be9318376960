/-
  WHAT THE WALK OF TidyMeans ASKS, IN PLAIN LEAN: own work, over no program.
-/
import Derived.Test.YtidfabbnobipkaaSp34
import Derived.Test.YtidfabbnobipkaaSp32
namespace Go.Proofs.Ytidfabbnobipkaa.Sv
open Go
set_option linter.unusedVariables false
set_option linter.unusedSimpArgs false
theorem tame_small {b : Blocks} {most : Int} (hm : most ≤ 1000) (h : b.small most = true) {i : Nat} {f : BFunc} (hf : b.funcs[i]? = some f) : f.tame := by
  have hsp := small_spec h
  have hfm := List.mem_of_getElem? hf
  have hone := (right_spec hsp.2.2.2.2).2.2.2 i f hf
  have hle := leads_of_one hone
  refine ⟨by have := (hsp.2.2.1 f hfm).2; omega, fun x hx => ?_, hle, fun k hk => head_ends hle hk⟩
  have := count_ins hfm hx
  have := hsp.2.2.2.1
  omega
theorem holds_small {b : Blocks} {most : Int} (h : b.small most = true) {i : Nat} {f : BFunc} (hf : b.funcs[i]? = some f) : Holds f f.tidy f.tpaths := by
  have hone := (right_spec (small_spec h).2.2.2.2).2.2.2 i f hf
  exact tidy_holds (leads_of_one hone) (one_spec hone).2.2.1
theorem tidy_mem {f : BFunc} (h : f.tame) {x : Block} (hx : x ∈ f.tidy.blocks) : ∃ p, inF f.blocks.length p ∧ p.length ≤ f.blocks.length + 1 ∧ x.ins = f.joined p := by
  simp only [BFunc.tidy, List.mem_map] at hx
  obtain ⟨p, hp, rfl⟩ := hx
  exact ⟨p, paths_in h.leads _ (Nat.le_refl _) p hp, pathsTo_len _ p hp, rfl⟩
theorem tidy_insW {f : BFunc} (h : f.tame) (hw : ∀ x ∈ f.blocks, Sv.insW x.ins) : ∀ x ∈ f.tidy.blocks, Sv.insW x.ins := fun x hx t ht => by
  obtain ⟨p, h1, h2, h3⟩ := tidy_mem h hx
  rw [h3] at ht
  obtain ⟨i, hi, hti⟩ := mem_joined ht
  exact hw _ (List.mem_of_getElem? (blockAt_get (h1.2 i hi))) t hti
theorem tidy_lens {f : BFunc} (h : f.tame) : ∀ x ∈ f.tidy.blocks, x.ins.length ≤ 1000000000 := fun x hx => by
  obtain ⟨p, h1, h2, h3⟩ := tidy_mem h hx
  rw [h3]
  have := joined_len h.ins p
  have := h.mild
  omega
end Go.Proofs.Ytidfabbnobipkaa.Sv
