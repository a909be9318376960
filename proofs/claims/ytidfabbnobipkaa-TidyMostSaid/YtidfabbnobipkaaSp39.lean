/-
  WHAT THE WALKS OF TidyMost AND TidyTwice ASK, IN PLAIN LEAN: own work, over no program.
-/
import Derived.Test.YtidfabbnobipkaaSp38
namespace Go.Proofs.Ytidfabbnobipkaa.Sv
open Go
set_option linter.unusedVariables false
set_option linter.unusedSimpArgs false
theorem idx_mapN {α : Type} {l : List α} {f : α → List AV} {n : Int} {x : α} (h : l[n.toNat]? = some x) : (l.map f)[n.toNat]? = some (f x) := by
  rw [List.getElem?_map, h]; rfl
theorem tameS {b : Blocks} {most : Int} (hm : most ≤ 1000) (h : b.small most = true) {i : Nat} {f : BFunc} (hf : b.funcs[i]? = some f) : f.tame ∧ f.blocks ≠ [] ∧ (∀ x ∈ f.blocks, x.ins.length ≤ most) ∧ (f.blocks.length : Int) ≤ 255 := by
  have hsp := small_spec h
  have hfm := List.mem_of_getElem? hf
  have hone := (right_spec hsp.2.2.2.2).2.2.2 i f hf
  have hle := leads_of_one hone
  have hin : ∀ x ∈ f.blocks, (x.ins.length : Int) ≤ most := fun x hx => by
    have := count_ins hfm hx
    have := hsp.2.2.2.1
    omega
  refine ⟨⟨by have := (hsp.2.2.1 f hfm).2; omega, fun x hx => ?_, hle, fun k hk => head_ends hle hk⟩, (one_spec hone).2.2.1, hin, ?_⟩
  · have := hin x hx; omega
  · have := (hsp.2.2.1 f hfm).2; omega
/-- how many there are, so far; from where the last one came -/
def frOk (next : List (List Int)) (k : Int) (n : Nat) (fr : Int) : Prop := 1 ≤ n → ∃ i : Nat, fr = (i : Int) ∧ i < next.length ∧ k ∈ rowN next i
def allT (n : Nat) : List Bool := List.replicate n true
theorem allT_get {n j : Nat} (h : j < n) : (allT n)[j]? = some true := by simp [allT, h]
theorem cnt_bound {next : List (List Int)} {reach : List Bool} {k : Int} (h2 : ∀ l ∈ next, l.length ≤ 2) : ∀ m, cntTo next reach k m ≤ 2 * m
  | 0 => Nat.le_refl _
  | m + 1 => by
    have ih := cnt_bound (reach := reach) (k := k) h2 m
    have hl : (rowN next m).length ≤ 2 := by
      unfold rowN
      cases e : next[m]? with
      | none => simp
      | some l => exact h2 l (List.mem_of_getElem? e)
    have := List.count_le_length (a := k) (l := rowN next m)
    unfold cntTo
    cases (reach[m]?).getD false <;> simp only [cond_true, cond_false] <;> omega
theorem cnt_allT {next : List (List Int)} {k : Int} {j n : Nat} {row : List Int} (hj : j < n) (hr : next[j]? = some row) : cntTo next (allT n) k (j + 1) = cntTo next (allT n) k j + row.count k := by
  rw [cntTo, allT_get hj, rowN, hr]; rfl
theorem count_hit {row : List Int} {m : Nat} {y k : Int} (hy : row[m]? = some y) (h : (y == k) = true) (n : Nat) : n + (row.take (m + 1)).count k = n + (row.take m).count k + 1 := by
  rw [take_succ_eq hy, List.count_append, List.count_cons, h]; simp; omega
theorem count_miss {row : List Int} {m : Nat} {y k : Int} (hy : row[m]? = some y) (h : (y == k) = false) (n : Nat) : n + (row.take (m + 1)).count k = n + (row.take m).count k := by
  rw [take_succ_eq hy, List.count_append, List.count_cons, h]; simp
/-- the next state of the count -/
def frNext (k : Int) (j : Nat) (y fr : Int) : Int := bif y == k then (j : Int) else fr
theorem frOk_step {next : List (List Int)} {k y fr : Int} {j m n : Nat} {row : List Int} (hr : next[j]? = some row) (hy : row[m]? = some y) (h : frOk next k (n + (row.take m).count k) fr) : frOk next k (n + (row.take (m + 1)).count k) (frNext k j y fr) := fun h1 => by
  unfold frNext
  cases e : y == k with
  | true =>
    refine ⟨j, rfl, (List.getElem?_eq_some_iff.1 hr).1, ?_⟩
    rw [rowN, hr]
    have : y = k := by simpa using e
    subst this
    exact List.mem_of_getElem? hy
  | false => exact h (by rw [count_miss hy e] at h1; exact h1)
theorem tidy_blocks_len (f : BFunc) : f.tidy.blocks.length ≤ f.blocks.length := by
  have := pathsTo_length f f.blocks.length
  simpa [BFunc.tidy, BFunc.tpaths] using this
end Go.Proofs.Ytidfabbnobipkaa.Sv
