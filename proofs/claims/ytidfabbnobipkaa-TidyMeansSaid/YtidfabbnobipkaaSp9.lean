/-
  SMALL RULES FOR THE DOCUMENT'S WORDS: own work, over no program.
-/
import Derived.Test.YtidfabbnobipkaaSp8
namespace Go.Proofs.Ytidfabbnobipkaa.Sv
open Go
set_option linter.unusedVariables false
set_option linter.unusedSimpArgs false

theorem wrapN_i64 {n : Nat} (h : n < 9223372036854775808) : IntKind.i64.wrap (n : Int) = (n : Int) := wrap_i64 (by omega) (by omega)
theorem wrapN_u64 {n : Nat} (h : n < 18446744073709551616) : IntKind.u64.wrap (n : Int) = (n : Int) := by
  rw [IntKind.wrap_u64]; omega
theorem wrapN_u32 {n : Nat} (h : n < 4294967296) : IntKind.u32.wrap (n : Int) = (n : Int) := by
  rw [IntKind.wrap_u32]; omega
theorem ebin_rem {k : IntKind} {a b : Nat} (hb : 0 < b) : evalBin .rem (.int k (a : Int)) (.int k (b : Int)) = some (.int k ((a % b : Nat) : Int)) := by
  have h0 : ¬ (b : Int) = 0 := by omega
  simp only [evalBin, evalInt, isShift, cond_false, if_true, if_neg h0]
  rw [Int.tmod_eq_emod_of_nonneg (by omega), Int.natCast_emod]
theorem ebin_quo {k : IntKind} {a b : Nat} (hb : 0 < b) (hw : k.wrap ((a / b : Nat) : Int) = ((a / b : Nat) : Int)) : evalBin .quo (.int k (a : Int)) (.int k (b : Int)) = some (.int k ((a / b : Nat) : Int)) := by
  have h0 : ¬ (b : Int) = 0 := by omega
  simp only [evalBin, evalInt, isShift, cond_false, if_true, if_neg h0]
  rw [Int.tdiv_eq_ediv_of_nonneg (by omega), ← Int.natCast_ediv, hw]
theorem ebin_add {k : IntKind} {a b : Nat} (hw : k.wrap ((a + b : Nat) : Int) = ((a + b : Nat) : Int)) : evalBin .add (.int k (a : Int)) (.int k (b : Int)) = some (.int k ((a + b : Nat) : Int)) := by
  simp only [evalBin, evalInt, isShift, cond_false, if_true]
  rw [← Int.natCast_add, hw]
theorem ebin_mul {k : IntKind} {a b : Nat} (hw : k.wrap ((a * b : Nat) : Int) = ((a * b : Nat) : Int)) : evalBin .mul (.int k (a : Int)) (.int k (b : Int)) = some (.int k ((a * b : Nat) : Int)) := by
  simp only [evalBin, evalInt, isShift, cond_false, if_true]
  rw [← Int.natCast_mul, hw]
section
variable {P : Program} {T : Nat → Option TyI} {o : Oper} {e : AEnv} {h : AHeap}
theorem q_convSame (hT : TOk P T) {t u : TypeId} {x : Operand} {k k' : IntKind} {n : Int} {i j : TyI} (ho : o.op = .convert t u x) (hx : look e x = some (.int k' n)) (hi : T t = some i) (hj : T u = some j) (hk : j.k = .int k) (hw : k.wrap n = n) : QLoc P o e h [] (.int k n) := by
  have := q_convInt (h := h) hT ho hx hi hj hk
  rwa [hw] at this
end
def natCells (l : List Nat) : List (List AV) := l.map fun (b : Nat) => [AV.int .i64 (b : Int)]
theorem bitsN_succ (n k : Nat) : bitsN n (k + 1) = bitsN n k ++ [n / 2 ^ k % 2] := by
  simp [bitsN, List.range_succ]
theorem bitsN_length (n k : Nat) : (bitsN n k).length = k := by simp [bitsN]
theorem valB_drop {l : List Nat} {i b : Nat} (h : l[i]? = some b) : valB (l.drop i) = b + 2 * valB (l.drop (i + 1)) := by
  have hi : i < l.length := (List.getElem?_eq_some_iff.1 h).1
  rw [List.drop_eq_getElem_cons hi]
  have : l[i] = b := by rw [List.getElem?_eq_getElem hi] at h; cases h; rfl
  rw [this]; rfl
/-- the bits while they are put together -/
def mixB (op : Int) (a b i : Nat) : List Nat := (bothN op a b).take i ++ (bitsN a 32).drop i
theorem bothN_length (op : Int) (a b : Nat) : (bothN op a b).length = 32 := by simp [bothN]
theorem mixB_length {op : Int} {a b i : Nat} (h : i ≤ 32) : (mixB op a b i).length = 32 := by
  simp [mixB, bothN_length, bitsN_length]; omega
theorem mixB_get {op : Int} {a b i : Nat} (h : i < 32) : (mixB op a b i)[i]? = some (a / 2 ^ i % 2) := by
  have hl : ((bothN op a b).take i).length = i := by simp [bothN_length]; omega
  rw [mixB, List.getElem?_append_right (by omega), hl, Nat.sub_self, List.getElem?_drop, Nat.add_zero, bitsN_get h]
theorem mixB_succ {op : Int} {a b i : Nat} (h : i < 32) : mixB op a b (i + 1) = (mixB op a b i).set i (bop op (a / 2 ^ i % 2) (b / 2 ^ i % 2)) := by
  have hl : ((bothN op a b).take i).length = i := by simp [bothN_length]; omega
  have hg : (bothN op a b)[i]? = some (bop op (a / 2 ^ i % 2) (b / 2 ^ i % 2)) := by simp [bothN, h]
  have hd : (bitsN a 32).drop i = (a / 2 ^ i % 2) :: (bitsN a 32).drop (i + 1) := by
    have hi : i < (bitsN a 32).length := by rw [bitsN_length]; exact h
    rw [List.drop_eq_getElem_cons hi]
    congr 1
    have := bitsN_get (n := a) h
    rw [List.getElem?_eq_getElem hi] at this
    exact Option.some.inj this
  unfold mixB
  rw [List.set_append, if_neg (by omega), hl, Nat.sub_self, take_succ_eq hg, List.append_assoc, hd]
  rfl
end Go.Proofs.Ytidfabbnobipkaa.Sv
