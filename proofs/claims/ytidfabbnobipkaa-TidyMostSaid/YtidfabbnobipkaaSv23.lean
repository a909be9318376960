/-
  MORE OPERATIONS: truth values compared; a number turned: own work, over no program.
-/
import Derived.Test.YtidfabbnobipkaaSv22
namespace Go.Proofs.Ytidfabbnobipkaa.Sv
open Go
set_option linter.unusedVariables false
set_option linter.unusedSimpArgs false
section
variable {P : Program} {T : Nat → Option TyI} {o : Oper} {e : AEnv} {h : AHeap}

theorem q_boolEq (hT : TOk P T) {t t' : TypeId} {x y : Operand} {a b : Bool} {i : TyI} (neg : Bool) (ho : o.op = .binOp (bif neg then .neq else .eql) t x y t') (hx : look e x = some (.bool a)) (hy : look e y = some (.bool b)) (hi : T t = some i) (hk : i.k = .bool) : QLoc P o e h [] (.bool (bif neg then a != b else a == b)) := by
  intro H ι act w s hs g1 g2
  have hx' : look s.env x = some (.bool a) := by rw [g1 x (by rw [ho]; simp [Op.operands]), hx]
  have hy' : look s.env y = some (.bool b) := by rw [g1 y (by rw [ho]; simp [Op.operands]), hy]
  have hvx : act.eval x = .bool a := (look_rel hs hx').bool_inv
  have hvy : act.eval y = .bool b := (look_rel hs hy').bool_inv
  obtain ⟨info, d, e1, e2, e3, e4, e5, e6⟩ := tyOf_spec (hT _ _ hi)
  have hd := tk_bool (P := P) (d := d) (e3 ▸ hk)
  subst hd
  have he : (Op.equalIn 10000 t (.bool a) (.bool b)).run P w = .ok (a == b) w := by
    rw [Op.equalIn]; simp [run_underlying' e2]
  refine ⟨_, .bool _ _, ?_⟩
  cases neg with
  | false =>
    simp only [cond_false] at ho
    simp only [execOp, ho, hvx, hvy, eqGuard, binOp, Op.equal, Op.maxDepth, Sem.run_bind, Result.andThen_ok, Sem.run_pure, he, cond_false, Bool.not_true, Bool.false_eq_true, if_false]
  | true =>
    simp only [cond_true] at ho
    simp only [execOp, ho, hvx, hvy, eqGuard, binOp, Op.equal, Op.maxDepth, Sem.run_bind, Result.andThen_ok, Sem.run_pure, he, cond_true, Bool.not_true, Bool.false_eq_true, if_false]
    cases a <;> cases b <;> rfl

theorem q_neg {x : Operand} {t : TypeId} {k : IntKind} {n : Int} (ho : o.op = .unOp .neg t x) (hx : look e x = some (.int k n)) : QLoc P o e h [] (.int k (k.wrap (0 - n))) := by
  intro H ι a w s hs h1 h2
  have hx' : look s.env x = some (.int k n) := by rw [h1 x (by rw [ho]; simp [Op.operands]), hx]
  have hvx : a.eval x = .int k n := (look_rel hs hx').int_inv
  exact ⟨_, .int _ _ _, by simp [execOp, ho, hvx, Op.unary, Op.intArith]⟩
end
end Go.Proofs.Ytidfabbnobipkaa.Sv
