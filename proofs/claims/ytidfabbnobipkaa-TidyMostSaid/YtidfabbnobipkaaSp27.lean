/-
  THE DOCUMENT'S WAY TO HOLD PATHS AGAINST A FUNCTION, IN PLAIN LEAN: own work, over no program.
-/
import Derived.Test.YtidfabbnobipkaaSp26
namespace Go.Proofs.Ytidfabbnobipkaa.Sv
open Go
set_option linter.unusedVariables false
set_option linter.unusedSimpArgs false

def oneB (old : BFunc) (b : Block) (paths : List (List Int)) (p : List Int) : Bool := followsB old p && (madeR old b.ins p && leadsB (old.blockAt (lastOf p)) b paths)
theorem stepB_one (old new : BFunc) (paths : List (List Int)) (p : List Int) (k : Nat) : stepB old new paths (p, k) = oneB old (new.blockAt k) paths p := rfl
theorem joined_split {f : BFunc} {p : List Int} {k : Nat} {i : Int} (h : p[k]? = some i) : f.joined p = f.joined (p.take k) ++ ((f.blockAt i).ins ++ f.joined (p.drop (k + 1))) := by
  have hp : p = p.take k ++ (i :: p.drop (k + 1)) := by
    obtain ⟨h1, h2⟩ := List.getElem?_eq_some_iff.1 h
    conv => lhs; rw [← List.take_append_drop k p, List.drop_eq_getElem_cons h1, h2]
  conv => lhs; rw [hp]
  simp [BFunc.joined]
theorem one_fail1 {f : BFunc} {b : List Tac} {p : List Int} {k j : Nat} {i : Int} (h : p[k]? = some i) (hj : j < (f.blockAt i).ins.length) (hl : b.length ≤ (f.joined (p.take k)).length + j) : madeR f b p = false := by
  rw [madeR_eq, decide_eq_false_iff_not]
  intro e
  rw [e, joined_split h, List.length_append, List.length_append] at hl
  omega
theorem one_fail2 {f : BFunc} {b : List Tac} {p : List Int} {k j : Nat} {i : Int} {u v : Tac} (h : p[k]? = some i) (hj : (f.blockAt i).ins[j]? = some u) (hb : b[(f.joined (p.take k)).length + j]? = some v) (hne : v ≠ u) : madeR f b p = false := by
  rw [madeR_eq, decide_eq_false_iff_not]
  intro e
  have hlt := (List.getElem?_eq_some_iff.1 hj).1
  rw [e, joined_split h, List.getElem?_append_right (by omega), Nat.add_sub_cancel_left, List.getElem?_append_left hlt, hj] at hb
  cases hb
  exact hne rfl
theorem one_false {old : BFunc} {b : Block} {paths : List (List Int)} {p : List Int} (h : madeR old b.ins p = false) : oneB old b paths p = false := by simp [oneB, h]
theorem one_false2 {old : BFunc} {b : Block} {paths : List (List Int)} {p : List Int} (h : followsB old p = false) : oneB old b paths p = false := by simp [oneB, h]
theorem one_true {old : BFunc} {b : Block} {paths : List (List Int)} {p : List Int} (h : followsB old p = true) (h2 : madeR old b.ins p = true) : oneB old b paths p = leadsB (old.blockAt (lastOf p)) b paths := by simp [oneB, h, h2]
theorem okAll_next {f : BFunc} {p : List Int} {k : Nat} (h : ((List.range (p.length - 1)).take k).all (okAt f p) = true) (hk : k < p.length - 1 → okAt f p k = true) : ((List.range (p.length - 1)).take (k + 1)).all (okAt f p) = true := by
  by_cases h1 : k < p.length - 1
  · exact all_succ (range_get h1) h (hk h1)
  · rw [List.take_of_length_le (by simp; omega)] at h ⊢
    exact h
theorem take_push {f : BFunc} {b : List Tac} {p : List Int} {k j : Nat} {i : Int} {u : Tac} (h : b.take ((f.joined (p.take k)).length + j) = f.joined (p.take k) ++ (f.blockAt i).ins.take j) (hj : (f.blockAt i).ins[j]? = some u) (hb : b[(f.joined (p.take k)).length + j]? = some u) :
    b.take ((f.joined (p.take k)).length + (j + 1)) = f.joined (p.take k) ++ (f.blockAt i).ins.take (j + 1) := by
  rw [← Nat.add_assoc, take_succ_eq hb, take_succ_eq hj, h, List.append_assoc]
theorem take_block {f : BFunc} {b : List Tac} {p : List Int} {k j : Nat} {i : Int} (hk : p[k]? = some i) (h : b.take ((f.joined (p.take k)).length + j) = f.joined (p.take k) ++ (f.blockAt i).ins.take j) (hj : j = (f.blockAt i).ins.length) :
    (f.joined (p.take k)).length + j = (f.joined (p.take (k + 1))).length ∧ b.take (f.joined (p.take (k + 1))).length = f.joined (p.take (k + 1)) := by
  have e := joined_succ (f := f) hk
  have e2 : (f.joined (p.take k)).length + j = (f.joined (p.take (k + 1))).length := by rw [e, List.length_append, hj]
  refine ⟨e2, ?_⟩
  rw [← e2, h, e, hj, List.take_of_length_le (Nat.le_refl _)]
theorem made_end {f : BFunc} {b : List Tac} {p : List Int} (h : b.take (f.joined p).length = f.joined p) : madeR f b p = ((f.joined p).length == b.length) := by
  rw [madeR_eq]
  by_cases e : (f.joined p).length = b.length
  · rw [List.take_of_length_le (by omega)] at h
    simp [h]
  · rw [decide_eq_false (fun h2 => e (by rw [h2]))]
    simp [e]
theorem made_endI {f : BFunc} {b : List Tac} {p : List Int} (h : b.take (f.joined p).length = f.joined p) : madeR f b p = !((((f.joined p).length : Nat) : Int) != (((b.map Tac.cells).length : Nat) : Int)) := by
  rw [made_end h, List.length_map]
  by_cases e : (f.joined p).length = b.length
  · simp [e]
  · have e2 : ¬ (((f.joined p).length : Nat) : Int) = ((b.length : Nat) : Int) := by omega
    have h1 : ((f.joined p).length == b.length) = false := by simpa using e
    have h2 : ((((f.joined p).length : Nat) : Int) != ((b.length : Nat) : Int)) = true := by simpa using e2
    rw [h1, h2]; rfl
end Go.Proofs.Ytidfabbnobipkaa.Sv
