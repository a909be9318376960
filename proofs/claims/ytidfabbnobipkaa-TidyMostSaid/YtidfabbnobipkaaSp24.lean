/-
  WHETHER PATHS HOLD, AS THE PROGRAM TELLS IT, IN PLAIN LEAN: own work, over no program.
-/
import Derived.Test.YtidfabbnobipkaaSp23
namespace Go.Proofs.Ytidfabbnobipkaa.Sv
open Go
set_option linter.unusedVariables false
set_option linter.unusedSimpArgs false

def okAt (f : BFunc) (p : List Int) (j : Nat) : Bool := (f.blockAt (iget p j)).fin == 1 && (f.blockAt (iget p j)).to == iget p ((j + 1 : Nat) : Int)
def followsB (f : BFunc) (p : List Int) : Bool := (List.range (p.length - 1)).all (okAt f p)
def madeR (f : BFunc) : List Tac → List Int → Bool
  | rest, [] => rest.isEmpty
  | rest, i :: r => decide ((f.blockAt i).ins.length ≤ rest.length) && (decide (rest.take (f.blockAt i).ins.length = (f.blockAt i).ins) && madeR f (rest.drop (f.blockAt i).ins.length) r)
def headZ (p : List Int) : Int := p.head?.getD 0
def pathK (paths : List (List Int)) (k : Int) : List Int := (paths[k.toNat]?).getD []
def beginsB (paths : List (List Int)) (k i : Int) : Bool := decide (k ≥ 0) && (decide (k < paths.length) && headZ (pathK paths k) == i)
def leadsTo (last b : Block) (paths : List (List Int)) : Bool := bif b.fin == 1 || b.fin == 2 then beginsB paths b.to last.to else b.to == last.to
def leadsEl (last b : Block) (paths : List (List Int)) : Bool := bif b.fin == 2 then beginsB paths b.els last.els else b.els == last.els
def leadsB (last b : Block) (paths : List (List Int)) : Bool := !(b.fin != last.fin) && (!(b.v != last.v) && (leadsTo last b paths && leadsEl last b paths))
def pathIn (n : Nat) (p : List Int) : Bool := !(p.length == 0) && p.all (fun i => !(decide (i < 0)) && !(decide (i ≥ n)))
def stepB (old new : BFunc) (paths : List (List Int)) (q : List Int × Nat) : Bool := followsB old q.1 && (madeR old (new.blockAt q.2).ins q.1 && leadsB (old.blockAt (lastOf q.1)) (new.blockAt q.2) paths)
def checkB (old new : BFunc) (paths : List (List Int)) : Bool :=
  !(paths.length == 0) && (!(paths.length != new.blocks.length) && (!(old.regs != new.regs) && (paths.all (pathIn old.blocks.length) && (!(headZ (pathK paths 0) != 0) && paths.zipIdx.all (stepB old new paths)))))
theorem pathIn_inF {n : Nat} {p : List Int} (h : pathIn n p = true) : inF n p := by
  simp only [pathIn, Bool.and_eq_true, Bool.not_eq_true', List.all_eq_true, decide_eq_false_iff_not, beq_eq_false_iff_ne] at h
  exact ⟨fun e => h.1 (by rw [e]; rfl), fun i hi => by have := h.2 i hi; omega⟩
theorem range_get {n k : Nat} (h : k < n) : (List.range n)[k]? = some k := by simp [h]
theorem headZ_get {p : List Int} (h : p ≠ []) : p[0]? = some (headZ p) := by
  cases p with
  | nil => exact absurd rfl h
  | cons x r => rfl
theorem pathK_get {paths : List (List Int)} {k : Int} (h : 0 ≤ k ∧ k < paths.length) : paths[k.toNat]? = some (pathK paths k) := by
  obtain ⟨x, hx⟩ := get_of_lt (l := paths) (k := k.toNat) (by omega)
  rw [pathK, hx]; rfl
theorem iget_get {p : List Int} {k : Nat} {y : Int} (h : p[k]? = some y) : iget p k = y := by simp [iget, h]
/-- what is left of a list that is held against paths -/
structure MG where
  k : Nat
  rest : List Tac
theorem madeR_step {f : BFunc} {p : List Int} {rest : List Tac} {k : Nat} {i : Int} (h : p[k]? = some i) : madeR f rest (p.drop k) = (decide ((f.blockAt i).ins.length ≤ rest.length) && (decide (rest.take (f.blockAt i).ins.length = (f.blockAt i).ins) && madeR f (rest.drop (f.blockAt i).ins.length) (p.drop (k + 1)))) := by
  obtain ⟨h1, h2⟩ := List.getElem?_eq_some_iff.1 h
  rw [List.drop_eq_getElem_cons h1, h2]; rfl
theorem tacs_take {l : List Tac} {n : Nat} : (l.map Tac.cells).take n = (l.take n).map Tac.cells := by rw [List.map_take]
theorem tacs_drop {l : List Tac} {n : Nat} : (l.map Tac.cells).drop n = (l.drop n).map Tac.cells := by rw [List.map_drop]
theorem check_bad1 {old new : BFunc} {paths : List (List Int)} (h : ¬ (paths.length ≠ 0 ∧ paths.length = new.blocks.length ∧ old.regs = new.regs)) : checkB old new paths = false := by
  rw [Bool.eq_false_iff]
  intro h2
  simp only [checkB, Bool.and_eq_true, Bool.not_eq_true', beq_eq_false_iff_ne, bne_eq_false_iff_eq] at h2
  exact h ⟨h2.1, h2.2.1, h2.2.2.1⟩
theorem check_bad2 {old new : BFunc} {paths : List (List Int)} (h : paths.all (pathIn old.blocks.length) = false) : checkB old new paths = false := by
  simp only [checkB, h, Bool.false_and, Bool.and_false]
theorem check_bad3 {old new : BFunc} {paths : List (List Int)} (h : (headZ (pathK paths 0) != 0) = true) : checkB old new paths = false := by
  simp only [checkB, h, Bool.not_true, Bool.false_and, Bool.and_false]
theorem check_bad4 {old new : BFunc} {paths : List (List Int)} (h : paths.zipIdx.all (stepB old new paths) = false) : checkB old new paths = false := by
  simp only [checkB, h, Bool.and_false]
theorem check_good {old new : BFunc} {paths : List (List Int)} (h1 : paths.length ≠ 0) (h2 : paths.length = new.blocks.length) (h3 : old.regs = new.regs) (h4 : paths.all (pathIn old.blocks.length) = true) (h5 : (headZ (pathK paths 0) != 0) = false) (h6 : paths.zipIdx.all (stepB old new paths) = true) : checkB old new paths = true := by
  have e1 : (paths.length == 0) = false := by simpa using h1
  have e2 : (paths.length != new.blocks.length) = false := by simp [h2]
  have e3 : (old.regs != new.regs) = false := by simp [h3]
  simp only [checkB, e1, e2, e3, h4, h5, h6]; rfl
theorem all_bad_zip {α : Type} {l : List α} {p : α × Nat → Bool} {k : Nat} {x : α} (hx : l[k]? = some x) (hp : p (x, k) = false) : l.zipIdx.all p = false := all_bad (zipIdx_get hx) hp
end Go.Proofs.Ytidfabbnobipkaa.Sv
