/-
  THE LAW FoldKnown, IN PLAIN LEAN: own work, over no program.
-/
import Derived.Test.YtidfabbnobipkaaSp5
namespace Go.Proofs.Ytidfabbnobipkaa.Sv
open Go
set_option linter.unusedVariables false
set_option linter.unusedSimpArgs false

/-- A whole row is memory that stays as it is. -/
theorem Ghost.freezeAll {n : Nat} {e : AEnv} {h : AHeap} (t b : Nat) {m sz : Nat} {es : List (List AV)} (ht : e t = some (.ref b m 0 m)) (hb : h b = some (.row true sz es)) (hm : m = es.length) :
    Ghost ⟨n, e, h⟩ ⟨n, eput e t (.lst false es), hrm h b⟩ := by
  have := Ghost.freeze (n := n) t b ht hb hm
  rwa [List.drop_zero, List.take_of_length_le (Nat.le_of_eq hm.symm)] at this

def kOp (o : Int) : Int := IntKind.i64.wrap (4 + (IntKind.i64.wrap o).tmod 12)
def opTac (o : Int) : Tac := ⟨3, 0, 0, 1, kOp o, 0, 0, 0⟩
def fkOk (b : Int) (s : Int × Bool) (o : Int) : Bool := s.2 && (wapp (kOp o) s.1 b).2 == 0
def fkStep (b : Int) (s : Int × Bool) (o : Int) : Int × Bool := bif fkOk b s o then ((wapp (kOp o) s.1 b).1, true) else (s.1, false)
def fkTac (b : Int) (s : Int × Bool) (o : Int) : Tac := bif fkOk b s o then konst 0 (wapp (kOp o) s.1 b).1 else opTac o
def fkWant (b : Int) : Int × Bool → List Int → List Tac
  | _, [] => []
  | s, o :: r => fkTac b s o :: fkWant b (fkStep b s o) r
def fkS (a b : Int) (ops : List Int) : Int × Bool := ops.foldl (fkStep b) (a, true)
def fkL (a b : Int) (ops : List Int) : List Tac := konst 0 a :: konst 1 b :: ops.map opTac
def fkW (a b : Int) (ops : List Int) : List Tac := konst 0 a :: konst 1 b :: fkWant b (a, true) ops
def fkK (b : Int) (s : Int × Bool) : WMap := bif s.2 then [(0, s.1), (1, b)] else [(1, b)]

theorem fkWant_app (b : Int) (o : Int) : ∀ (ops : List Int) (s : Int × Bool), fkWant b s (ops ++ [o]) = fkWant b s ops ++ [fkTac b (ops.foldl (fkStep b) s) o]
  | [], s => rfl
  | p :: r, s => by
    simp only [List.cons_append, fkWant, List.foldl_cons, List.cons.injEq, true_and]
    exact fkWant_app b o r _
theorem fkWant_length (b : Int) : ∀ (ops : List Int) (s : Int × Bool), (fkWant b s ops).length = ops.length
  | [], _ => rfl
  | p :: r, s => by simp only [fkWant, List.length_cons, fkWant_length b r]
theorem fold_ops (b : Int) : ∀ (ops : List Int) (s : Int × Bool), foldIns (fkK b s) (ops.map opTac) = fkWant b s ops
  | [], _ => rfl
  | o :: r, s => by
    have hv : fvalue (opTac o) (fkK b s) = bif s.2 then ((wapp (kOp o) s.1 b).1, (wapp (kOp o) s.1 b).2 == 0) else (0, false) := by
      cases h : s.2 with
      | true => simp [fvalue, opTac, fkK, h, pget]
      | false => simp [fvalue, opTac, fkK, h, pget]
    have hs : fstep (fkK b s) (opTac o) = fkTac b s o := by
      unfold fstep fkTac fkOk
      rw [hv]
      cases s.2 with
      | true => cases (wapp (kOp o) s.1 b).2 == 0 <;> rfl
      | false => rfl
    have hn : fnext (fkK b s) (fkTac b s o) = fkK b (fkStep b s o) := by
      unfold fkTac fkStep
      cases h : fkOk b s o with
      | true =>
        have h2 : s.2 = true := by
          unfold fkOk at h
          simp only [Bool.and_eq_true] at h
          exact h.1
        simp [fnext, konst, Tac.sets, setsOp, fkK, h2, pset]
      | false => cases h2 : s.2 <;> simp [fnext, opTac, Tac.sets, setsOp, fkK, h2, pdel]
    simp only [List.map_cons, foldIns, fkWant, hs, hn, List.cons.injEq, true_and]
    exact fold_ops b r _
theorem fold_known (a b : Int) (ops : List Int) : foldIns [] (fkL a b ops) = fkW a b ops := by
  unfold fkL fkW
  simp only [foldIns, fstep_konst, List.cons.injEq, true_and]
  have : fnext (fnext [] (konst 0 a)) (konst 1 b) = fkK b (a, true) := by simp [fnext, konst, Tac.sets, setsOp, fkK, pset]
  rw [this]
  exact fold_ops b ops _
theorem fkS_succ {a b : Int} {ops : List Int} {k : Nat} {o : Int} (h : ops[k]? = some o) : fkS a b (ops.take (k + 1)) = fkStep b (fkS a b (ops.take k)) o := by
  unfold fkS; rw [take_succ_eq h, List.foldl_append]; rfl
theorem fkL_succ {a b : Int} {ops : List Int} {k : Nat} {o : Int} (h : ops[k]? = some o) : fkL a b (ops.take (k + 1)) = fkL a b (ops.take k) ++ [opTac o] := by
  unfold fkL; rw [take_succ_eq h, List.map_append]; rfl
theorem fkW_succ {a b : Int} {ops : List Int} {k : Nat} {o : Int} (h : ops[k]? = some o) : fkW a b (ops.take (k + 1)) = fkW a b (ops.take k) ++ [fkTac b (fkS a b (ops.take k)) o] := by
  unfold fkW fkS; rw [take_succ_eq h, fkWant_app]; rfl
theorem fkS_w {a b : Int} (ha : isW a) (hb : isW b) (ops : List Int) : isW (fkS a b ops).1 := by
  unfold fkS
  have : ∀ (l : List Int) (s : Int × Bool), isW s.1 → isW (l.foldl (fkStep b) s).1 := by
    intro l
    induction l with
    | nil => exact fun s h => h
    | cons o r ih =>
      intro s h
      refine ih _ ?_
      unfold fkStep
      cases fkOk b s o with
      | true => exact wapp_word h hb
      | false => exact h
  exact this ops _ ha
def fkF (a b : Int) (ops : List Int) : BFunc := ⟨2, [⟨fkL a b ops, 3, 0, 0, 0⟩]⟩
def fkG (a b : Int) (ops : List Int) : BFunc := ⟨2, [⟨fkW a b ops, 3, 0, 0, 0⟩]⟩
theorem fkF_fold (a b : Int) (ops : List Int) : (fkF a b ops).fold = fkG a b ops := by
  simp [fkF, fkG, BFunc.fold, Block.fold, fold_known]
theorem fkF_mild {a b : Int} {ops : List Int} (ha : isW a) (hb : isW b) (hl : ops.length ≤ 1000) : (fkF a b ops).mild := by
  refine ⟨by show (0 : Int) ≤ 2; decide, by show (2 : Int) ≤ 100000; decide, by show (1 : Nat) ≤ 100000; decide, fun x hx => ?_⟩
  simp only [fkF, List.mem_singleton] at hx
  subst hx
  refine ⟨by simp [fkL]; omega, fun t ht => ?_⟩
  simp only [fkL, List.mem_cons, List.mem_map] at ht
  rcases ht with rfl | rfl | ⟨o, _, rfl⟩
  · exact ha
  · exact hb
  · exact isW_zero

end Go.Proofs.Ytidfabbnobipkaa.Sv
