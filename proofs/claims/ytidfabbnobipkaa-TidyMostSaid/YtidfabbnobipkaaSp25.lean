/-
  SMALL LEMMAS FOR THE WALKS OF tidy.Check: own work, over no program.
-/
import Derived.Test.YtidfabbnobipkaaSp24
namespace Go.Proofs.Ytidfabbnobipkaa.Sv
open Go
set_option linter.unusedVariables false
set_option linter.unusedSimpArgs false
section
variable {P : Program} {T : Nat → Option TyI} {o : Oper} {e : AEnv} {h : AHeap}
theorem tac_sizes {l : List Tac} {j : TyI} (h8 : j.size = 8) : ∀ cs ∈ l.map Tac.cells, cs.length = j.size := fun cs h => by
  rw [h8]; exact (ins_sizes l).1 cs h
theorem q_front' (hT : TOk P T) {t : TypeId} {x : Operand} {y : Operand} {k : IntKind} {m : Nat} {z : Int} {l : List Tac} {i j : TyI} {u : Nat} (ho : o.op = .slice t x none (some y) none) (hx : look e x = some (insAV l)) (ht : T t = some i) (hk : i.k = .slice u) (hj : T u = some j ∧ j.size = 8)
    (hy : look e y = some (.int k z)) (hz : z = (m : Int)) (hm : m ≤ l.length) : QLoc P o e h [] (insAV (l.take m)) := by
  subst hz
  have := q_front (h := h) hT ho hx ht hk hj.1 hy (by simpa using hm) (tac_sizes hj.2)
  rwa [tacs_take] at this
theorem q_back' (hT : TOk P T) {t : TypeId} {x : Operand} {y : Operand} {k : IntKind} {m : Nat} {z : Int} {l : List Tac} {i j : TyI} {u : Nat} (ho : o.op = .slice t x (some y) none none) (hx : look e x = some (insAV l)) (ht : T t = some i) (hk : i.k = .slice u) (hj : T u = some j ∧ j.size = 8)
    (hy : look e y = some (.int k z)) (hz : z = (m : Int)) (hm : m ≤ l.length) : QLoc P o e h [] (insAV (l.drop m)) := by
  subst hz
  have := q_back (h := h) hT ho hx ht hk hj.1 hy (by simpa using hm) (tac_sizes hj.2)
  rwa [tacs_drop] at this
end
end Go.Proofs.Ytidfabbnobipkaa.Sv
