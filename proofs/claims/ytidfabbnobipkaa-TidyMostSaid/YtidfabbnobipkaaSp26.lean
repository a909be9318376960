/-
  THE LAWS OF LAYER 33, IN PLAIN LEAN: own work, over no program.
-/
import Derived.Test.YtidfabbnobipkaaSp25
namespace Go.Proofs.Ytidfabbnobipkaa.Sv
open Go
set_option linter.unusedVariables false
set_option linter.unusedSimpArgs false

section
variable {P : Program} {T : Nat → Option TyI} {o : Oper} {e : AEnv} {h : AHeap}
theorem QLoc.weak {R : List Nat} {x y : AV} (h0 : QLoc P o e h R x) (hxy : ∀ H ι v, Rel H ι x v → Rel H ι y v) : QLoc P o e h R y := fun H ι a w s hs g1 g2 => by
  obtain ⟨v, h1, h2⟩ := h0 H ι a w s hs g1 g2
  exact ⟨v, hxy _ _ _ h1, h2⟩
end
theorem agg_nil {H : Know} {ι : Lay} {cs : List AV} {v : Value} (h : Rel H ι (.agg (.nil :: cs)) v) : Rel H ι (.agg (.lst false [] :: cs)) v := by
  obtain ⟨us, rfl, hl, hr⟩ := h.agg_inv
  refine .agg _ _ _ (by simpa using hl) fun j x u h1 h2 => ?_
  cases j with
  | zero => simp at h1; subst h1; exact nil_empty (hr 0 .nil u (by simp) h2)
  | succ j => exact hr (j + 1) x u (by simpa using h1) h2
/-- nil in place of an empty list -/
theorem APure.nilThird {P : Program} {f : FuncId} {a b : AV} {R : AV → Prop} (h : APure P f [a, b, .lst false []] R) : APure P f [a, b, .nil] R := fun H w vs hra hk =>
  h H w vs ⟨by simpa using hra.1, fun j x v h1 h2 => by
    cases j with
    | zero => exact hra.2 0 x v h1 h2
    | succ j => cases j with
      | zero => exact hra.2 1 x v h1 h2
      | succ j => cases j with
        | zero => simp at h1; subst h1; exact nil_empty (hra.2 2 .nil v (by simp) h2)
        | succ j => simp at h1⟩ hk
def tacO (op : Int) : Tac := ⟨op, 0, 0, 0, 0, 0, 0, 0⟩
def awF : BFunc := ⟨1, [⟨[tacO 8], 1, 0, 2, 0⟩, ⟨[], 3, 0, 0, 0⟩, ⟨[tacO 9], 3, 0, 0, 0⟩]⟩
def awW : BFunc := ⟨1, [⟨[tacO 8, tacO 9], 3, 0, 0, 0⟩]⟩
theorem aw_tidy : awF.tidy = awW := by decide
theorem aw_paths : awF.tpaths = [[0, 2]] := by decide
theorem aw_check : checkB awF awW [[0, 2]] = true := by decide
theorem aw_check0 : checkB awF awW [[0]] = false := by decide
theorem aw_check1 : checkB awF awW [] = false := by decide
theorem aw_tame : awF.tame := by
  refine ⟨by decide, by decide, by unfold BFunc.leads; decide, fun k hk => ?_⟩
  match k with
  | 0 => decide
  | 1 => revert hk; decide
  | 2 => revert hk; decide
  | k + 3 =>
    have h3 : awF.reach[k + 3]? = none := List.getElem?_eq_none (by rw [reach_length]; show 3 ≤ k + 3; omega)
    rw [BFunc.headOf, h3] at hk
    simp at hk
/-! ### few -/
def insSum (l : List Block) : Nat := (l.map fun x => x.ins.length).sum
def BFunc.few (f : BFunc) (blocks most : Int) : Bool := !(decide ((f.blocks.length : Int) > blocks)) && decide ((insSum f.blocks : Int) ≤ most)
theorem insSum_succ {l : List Block} {k : Nat} {x : Block} (h : l[k]? = some x) : insSum (l.take (k + 1)) = insSum (l.take k) + x.ins.length := by
  rw [insSum, take_succ_eq h]; simp [insSum]
theorem insSum_le {l : List Block} (ht : ∀ x ∈ l, x.tight) : insSum l ≤ l.length * big := by
  have := sum_le (l := l) (p := fun x : Block => x.ins.length) (m := big) (fun x hx => ht x hx)
  exact this
theorem few_spec {f : BFunc} {b m : Int} (h : f.few b m = true) : (f.blocks.length : Int) ≤ b ∧ (insSum f.blocks : Int) ≤ m := by
  simp only [BFunc.few, Bool.and_eq_true, Bool.not_eq_true', decide_eq_false_iff_not, decide_eq_true_eq] at h
  omega
theorem ins_le {l : List Block} {x : Block} (h : x ∈ l) : x.ins.length ≤ insSum l := le_sum (p := fun x : Block => x.ins.length) h
/-! ### Small -/
def pathSum (l : List (List Int)) : Nat := (l.map List.length).sum
def smallP (l : List (List Int)) (rows most : Int) : Bool := decide ((l.length : Int) ≤ rows) && decide ((pathSum l : Int) ≤ most)
theorem pathSum_succ {l : List (List Int)} {k : Nat} {x : List Int} (h : l[k]? = some x) : pathSum (l.take (k + 1)) = pathSum (l.take k) + x.length := by
  rw [pathSum, take_succ_eq h]; simp [pathSum]
theorem pathSum_take (l : List (List Int)) (k : Nat) : pathSum (l.take k) ≤ pathSum l := by
  have h : pathSum (l.take k ++ l.drop k) = pathSum (l.take k) + pathSum (l.drop k) := by simp only [pathSum, List.map_append, List.sum_append]
  rw [List.take_append_drop] at h
  omega
theorem smallP_end {l : List (List Int)} {rows most : Int} {k : Nat} (h : l.length ≤ k ∨ most < (pathSum (l.take k) : Int)) : (decide ((l.length : Int) ≤ rows) && decide ((pathSum (l.take k) : Int) ≤ most)) = smallP l rows most := by
  unfold smallP
  congr 1
  rcases h with h | h
  · rw [List.take_of_length_le h]
  · have := pathSum_take l k
    rw [decide_eq_false (by omega), decide_eq_false (by omega)]
theorem path_le {l : List (List Int)} {x : List Int} (h : x ∈ l) : x.length ≤ pathSum l := le_sum (p := List.length) h
/-! ### made is: the instructions are those of the path -/
theorem madeR_eq (f : BFunc) : ∀ (p : List Int) (l : List Tac), madeR f l p = decide (l = f.joined p)
  | [], l => by cases l <;> simp [madeR, BFunc.joined]
  | i :: r, l => by
    have e : f.joined (i :: r) = (f.blockAt i).ins ++ f.joined r := by simp [BFunc.joined]
    rw [madeR, madeR_eq f r, e]
    by_cases h : l = (f.blockAt i).ins ++ f.joined r
    · subst h
      simp
    · rw [decide_eq_false h]
      by_cases h1 : (f.blockAt i).ins.length ≤ l.length
      · by_cases h2 : l.take (f.blockAt i).ins.length = (f.blockAt i).ins
        · by_cases h3 : l.drop (f.blockAt i).ins.length = f.joined r
          · exact absurd (by rw [← h3]; conv => lhs; rw [← List.take_append_drop (f.blockAt i).ins.length l, h2]) h
          · simp [h3]
        · simp [h2]
      · simp [h1]
end Go.Proofs.Ytidfabbnobipkaa.Sv
