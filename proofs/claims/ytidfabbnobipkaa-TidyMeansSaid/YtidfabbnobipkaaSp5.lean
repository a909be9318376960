/-
  THE LAWS OF FOLDING, IN PLAIN LEAN: own work, over no program.
-/
import Derived.Test.YtidfabbnobipkaaSp4
namespace Go.Proofs.Ytidfabbnobipkaa.Sv
open Go
set_option linter.unusedVariables false

theorem idx_map2 {α : Type} {l : List α} {f : α → List AV} {n : Int} {x : α} (h : l[n.toNat]? = some x) : (l.map f)[n.toNat]? = some (f x) := by
  rw [List.getElem?_map, h]; rfl

def awakeF : BFunc := ⟨3, [⟨[⟨1, 0, 0, 0, 0, 0, 0, 2⟩, ⟨2, 1, 0, 0, 0, 0, 0, 0⟩, ⟨3, 2, 0, 1, 6, 0, 0, 0⟩], 3, 0, 0, 0⟩]⟩
def awakeW : BFunc := ⟨3, [⟨[⟨1, 0, 0, 0, 0, 0, 0, 2⟩, ⟨1, 1, 0, 0, 0, 0, 0, 2⟩, ⟨1, 2, 0, 0, 0, 0, 0, 4⟩], 3, 0, 0, 0⟩]⟩
theorem awake_fold : awakeF.fold = awakeW := by decide
theorem isW_of {n : Int} (h : decide (0 ≤ n) && decide (n < 4294967296) = true) : isW n := by
  simp only [Bool.and_eq_true, decide_eq_true_eq] at h; exact h
theorem awake_mild : awakeF.mild := by
  refine ⟨by decide, by decide, by decide, fun x hx => ?_⟩
  simp only [awakeF, List.mem_singleton] at hx
  subst hx
  refine ⟨by decide, fun t ht => ?_⟩
  simp only [List.mem_cons, List.mem_nil_iff, or_false] at ht
  rcases ht with rfl | rfl | rfl <;> exact isW_of (by decide)

/-- one block by itself -/
def alone (f : BFunc) (x : Block) : BFunc := ⟨f.regs, [⟨x.ins, 3, 0, 0, 0⟩]⟩
theorem alone_mild {f : BFunc} (h : f.mild) {x : Block} (hx : x ∈ f.blocks) : (alone f x).mild := by
  refine ⟨h.1, h.2.1, by simp [alone], fun y hy => ?_⟩
  simp only [alone, List.mem_singleton] at hy
  subst hy
  exact h.2.2.2 x hx

theorem fold_get {f : BFunc} {n : Nat} {x : Block} (h : f.blocks[n]? = some x) : (f.blocks.map Block.fold)[n]? = some x.fold := by
  rw [List.getElem?_map, h]; rfl
theorem same_cells (t : Tac) : Sv.eqCells t.cells t.cells = some true := by rw [Tac.eqCells]; simp
/-! ### folded again -/
theorem fstep_konst (K : WMap) (d n : Int) : fstep K (konst d n) = konst d n := by
  have : (fvalue (konst d n) K).2 = false := by simp [fvalue, konst]
  unfold fstep; rw [this]; rfl
theorem fstep_fstep (K : WMap) (t : Tac) : fstep K (fstep K t) = fstep K t := by
  cases h : (fvalue t K).2 with
  | true =>
    have : fstep K t = konst t.d (fvalue t K).1 := by unfold fstep; rw [h]; rfl
    rw [this, fstep_konst]
  | false =>
    have : fstep K t = t := by unfold fstep; rw [h]; rfl
    rw [this, this]
theorem foldIns_twice : ∀ (l : List Tac) (K : WMap), foldIns K (foldIns K l) = foldIns K l
  | [], _ => rfl
  | t :: r, K => by
    simp only [foldIns, fstep_fstep, List.cons.injEq, true_and]
    exact foldIns_twice r _
theorem Block.fold_twice (x : Block) : x.fold.fold = x.fold := by
  unfold Block.fold
  simp only [foldIns_twice]
theorem BFunc.fold_twice (f : BFunc) : f.fold.fold = f.fold := by
  unfold BFunc.fold
  simp only [List.map_map, BFunc.mk.injEq, true_and]
  exact List.map_congr_left fun x _ => x.fold_twice
theorem fold_mild {f : BFunc} (h : f.mild) : f.fold.mild := by
  refine ⟨h.1, h.2.1, by simp only [BFunc.fold, List.length_map]; exact h.2.2.1, fun y hy => ?_⟩
  simp only [BFunc.fold, List.mem_map] at hy
  obtain ⟨x, hx, rfl⟩ := hy
  obtain ⟨h1, h2⟩ := h.2.2.2 x hx
  refine ⟨by simp only [Block.fold, foldIns_length]; exact h1, fun t ht => ?_⟩
  simp only [Block.fold] at ht
  obtain ⟨i, hi⟩ := List.mem_iff_getElem?.1 ht
  have hlt : i < x.ins.length := by rw [← foldIns_length x.ins []]; exact (List.getElem?_eq_some_iff.1 hi).1
  rw [foldIns_get x.ins [] (List.getElem?_eq_getElem hlt)] at hi
  cases hi
  exact fstep_w (fknow_w h2 i) (h2 _ (List.getElem_mem hlt))
/-- what was changed -/
theorem fstep_changed {K : WMap} {t : Tac} (h : t ≠ fstep K t) : (t.op = 2 ∨ t.op = 3) ∧ (fstep K t).op = 1 ∧ t.d = (fstep K t).d := by
  cases e : (fvalue t K).2 with
  | false => exact absurd (by unfold fstep; rw [e]; rfl) h
  | true =>
    have h1 : fstep K t = konst t.d (fvalue t K).1 := by unfold fstep; rw [e]; rfl
    refine ⟨?_, by rw [h1]; rfl, by rw [h1]; rfl⟩
    unfold fvalue at e
    cases h2 : t.op == 2 with
    | true => exact .inl (by simpa using h2)
    | false =>
      cases h3 : t.op == 3 with
      | true => exact .inr (by simpa using h3)
      | false => rw [h2, h3] at e; cases e

end Go.Proofs.Ytidfabbnobipkaa.Sv
