/-
  WORDS' OPERATIONS, IN PLAIN LEAN: own work, over no program.
-/
import Derived.Test.YtidfabbnobipkaaSp1
namespace Go.Proofs.Ytidfabbnobipkaa.Sv
open Go
set_option linter.unusedVariables false

def wdivide (op a b : Int) : Int × Int := bif b == 0 then (0, 14) else bif op == 7 then (IntKind.u32.wrap (a.tdiv b), 0) else (a.tmod b, 0)
def wshift (op a b : Int) : Int := bif decide (b > 31) then 0 else bif op == 12 then IntKind.u32.wrap (a * 2 ^ (min b.toNat IntKind.u32.bits)) else a.fdiv (2 ^ (min b.toNat IntKind.u32.bits))
def wcompare (op a b : Int) : Int := bif (op == 14 && decide (a < b)) || (op == 15 && a == b) then 1 else 0
def wapp (op a b : Int) : Int × Int :=
  bif op == 4 then (IntKind.u32.wrap (a + b), 0)
  else bif op == 5 then (IntKind.u32.wrap (a - b), 0)
  else bif op == 6 then (IntKind.u32.wrap (a * b), 0)
  else bif op == 7 || op == 8 then wdivide op a b
  else bif op == 9 then (IntKind.u32.wrap ((BitVec.ofInt IntKind.u32.bits a &&& BitVec.ofInt IntKind.u32.bits b).toNat), 0)
  else bif op == 10 then (IntKind.u32.wrap ((BitVec.ofInt IntKind.u32.bits a ||| BitVec.ofInt IntKind.u32.bits b).toNat), 0)
  else bif op == 11 then (IntKind.u32.wrap ((BitVec.ofInt IntKind.u32.bits a ^^^ BitVec.ofInt IntKind.u32.bits b).toNat), 0)
  else bif op == 12 || op == 13 then (wshift op a b, 0)
  else bif op == 14 || op == 15 then (wcompare op a b, 0)
  else (0, 1)
def wpair (p : Int × Int) : AV := .tup [.int .u32 p.1, .int .i64 p.2]
/-- a word -/
def isW (n : Int) : Prop := 0 ≤ n ∧ n < 4294967296

theorem isW_wrap (n : Int) : isW (IntKind.u32.wrap n) := by
  rw [IntKind.wrap_u32]; constructor <;> omega
theorem wapp_word {op a b : Int} (ha : isW a) (hb : isW b) : isW (wapp op a b).1 := by
  unfold wapp
  cases op == 4 <;> simp only [cond_true, cond_false] <;> try exact isW_wrap _
  cases op == 5 <;> simp only [cond_true, cond_false] <;> try exact isW_wrap _
  cases op == 6 <;> simp only [cond_true, cond_false] <;> try exact isW_wrap _
  cases op == 7 || op == 8
  · simp only [cond_false]
    cases op == 9 <;> simp only [cond_true, cond_false] <;> try exact isW_wrap _
    cases op == 10 <;> simp only [cond_true, cond_false] <;> try exact isW_wrap _
    cases op == 11 <;> simp only [cond_true, cond_false] <;> try exact isW_wrap _
    cases op == 12 || op == 13
    · simp only [cond_false]
      cases op == 14 || op == 15
      · simp only [cond_false]; constructor <;> omega
      · simp only [cond_true, wcompare]
        cases (op == 14 && decide (a < b)) || (op == 15 && a == b) <;> simp only [cond_true, cond_false] <;> constructor <;> omega
    · simp only [cond_true, wshift]
      cases decide (b > 31) <;> simp only [cond_true, cond_false]
      · cases op == 12 <;> simp only [cond_true, cond_false]
        · have hp : (0 : Int) < 2 ^ (min b.toNat IntKind.u32.bits) := Int.pow_pos (by omega)
          rw [Int.fdiv_eq_ediv_of_nonneg _ (Int.le_of_lt hp)]
          refine ⟨Int.ediv_nonneg ha.1 (Int.le_of_lt hp), ?_⟩
          have := Int.ediv_le_self (2 ^ (min b.toNat IntKind.u32.bits)) ha.1
          have := ha.2
          omega
        · exact isW_wrap _
      · constructor <;> omega
  · simp only [cond_true, wdivide]
    cases hz : b == 0 <;> simp only [cond_true, cond_false]
    · cases op == 7 <;> simp only [cond_true, cond_false]
      · rw [Int.tmod_eq_emod_of_nonneg ha.1]
        have hb0 : b ≠ 0 := by simpa using hz
        refine ⟨Int.emod_nonneg _ hb0, ?_⟩
        have := Int.emod_lt_of_pos a (show 0 < b by have := hb.1; omega)
        have := hb.2
        omega
      · exact isW_wrap _
    · constructor <;> omega

end Go.Proofs.Ytidfabbnobipkaa.Sv
