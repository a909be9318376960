/-
  THE DOCUMENT'S WORDS ARE THE PROGRAM'S, IN PLAIN LEAN: own work, over no program.
-/
import Derived.Test.YtidfabbnobipkaaSp9
import Derived.Test.YtidfabbnobipkaaSp6
namespace Go.Proofs.Ytidfabbnobipkaa.Sv
open Go
set_option linter.unusedVariables false
set_option linter.unusedSimpArgs false

theorem ebin_sub {k : IntKind} {a b : Nat} (hba : b ≤ a) (hw : k.wrap ((a - b : Nat) : Int) = ((a - b : Nat) : Int)) : evalBin .sub (.int k (a : Int)) (.int k (b : Int)) = some (.int k ((a - b : Nat) : Int)) := by
  simp only [evalBin, evalInt, isShift, cond_false, if_true]
  rw [← Int.ofNat_sub hba, hw]
theorem natCells_get {l : List Nat} {i b : Nat} (h : l[i]? = some b) : (natCells l)[0 + ((i : Nat) : Int).toNat]? = some [AV.int .i64 (b : Int)] := by
  rw [Nat.zero_add, Int.toNat_natCast, natCells, List.getElem?_map, h]; rfl
theorem get_set_self {α : Type} {l : List α} {i : Nat} {x y : α} (h : l[i]? = some x) : (l.set i y)[i]? = some y := by
  have hi := (List.getElem?_eq_some_iff.1 h).1
  simp [hi]
theorem natCells_len (l : List Nat) : (natCells l).length = l.length := by simp [natCells]
theorem natCells_append (l : List Nat) (b : Nat) : natCells (l ++ [b]) = natCells l ++ [[AV.int .i64 (b : Int)]] := by simp [natCells]
theorem natCells_set (l : List Nat) (i b : Nat) : (natCells l).set i [AV.int .i64 (b : Int)] = natCells (l.set i b) := by simp [natCells, List.map_set]
theorem bits_append (a k : Nat) : natCells (bitsN a k) ++ [[AV.int .i64 ((a / 2 ^ k % 2 : Nat) : Int)]] = natCells (bitsN a (k + 1)) := by
  rw [bitsN_succ, natCells_append]
theorem valB_drop_lt {l : List Nat} (hl : l.length = 32) (hb : ∀ b ∈ l, b < 2) (m : Nat) : valB (l.drop m) < 4294967296 := by
  have h := valB_lt (l.drop m) (fun b h => hb b (List.mem_of_mem_drop h))
  have : (2 : Nat) ^ (l.drop m).length ≤ 2 ^ 32 := Nat.pow_le_pow_right (by decide) (by simp; omega)
  have e : (2 : Nat) ^ 32 = 4294967296 := rfl
  omega
/-- one place of what the two make -/
theorem both_set0 {op : Int} {a b k : Nat} (hk : k < 32) {c : List AV} (h : bop op (a / 2 ^ k % 2) (b / 2 ^ k % 2) = 0) : (natCells (mixB op a b k)).set (0 + ((k : Nat) : Int).toNat) [AV.int .i64 0] = natCells (mixB op a b (k + 1)) := by
  rw [mixB_succ hk, h, ← natCells_set, Nat.zero_add, Int.toNat_natCast]; rfl
theorem both_set1 {op : Int} {a b k : Nat} (hk : k < 32) {c : List AV} (h : bop op (a / 2 ^ k % 2) (b / 2 ^ k % 2) = 1) : ((natCells (mixB op a b k)).set (0 + ((k : Nat) : Int).toNat) c).set (0 + ((k : Nat) : Int).toNat) [AV.int .i64 1] = natCells (mixB op a b (k + 1)) := by
  rw [List.set_set, mixB_succ hk, h, ← natCells_set, Nat.zero_add, Int.toNat_natCast]; rfl
theorem mixB_zero (op : Int) (a b : Nat) : mixB op a b 0 = bitsN a 32 := by simp [mixB]
theorem mixB_end (op : Int) (a b : Nat) : mixB op a b 32 = bothN op a b := by
  have h1 := bothN_length op a b
  have h2 := bitsN_length a 32
  unfold mixB
  rw [List.take_of_length_le (by omega), List.drop_eq_nil_of_le (by omega), List.append_nil]
theorem bothN_lt (op : Int) (a b : Nat) : ∀ c ∈ bothN op a b, c < 2 := fun c hc => by
  simp only [bothN, List.mem_map] at hc
  obtain ⟨i, _, rfl⟩ := hc; exact bop_lt _ _ _

/-! ### Apply on numbers -/
theorem isW_nat {a : Nat} (h : a < 4294967296) : isW (a : Int) := by constructor <;> omega
theorem wapp_add (a b : Nat) : wapp 4 a b = ((((a + b) % 4294967296 : Nat) : Int), 0) := by
  show (IntKind.u32.wrap ((a : Int) + b), (0 : Int)) = _
  rw [IntKind.wrap_u32]; rfl
theorem wapp_sub {a b : Nat} (h : b < 4294967296) : wapp 5 a b = ((((a + 4294967296 - b) % 4294967296 : Nat) : Int), 0) := by
  show (IntKind.u32.wrap ((a : Int) - b), (0 : Int)) = _
  rw [IntKind.wrap_u32]; congr 1; omega
theorem wapp_mul (a b : Nat) : wapp 6 a b = (((a * b % 4294967296 : Nat) : Int), 0) := by
  show (IntKind.u32.wrap ((a : Int) * b), (0 : Int)) = _
  rw [IntKind.wrap_u32, ← Int.natCast_mul]; rfl
theorem wapp_div0 (op a : Int) (h : op = 7 ∨ op = 8) : wapp op a 0 = (0, 14) := by
  rcases h with rfl | rfl <;> rfl
theorem wapp_div {a b : Nat} (ha : a < 4294967296) (h : ¬ b = 0) : wapp 7 a b = (((a / b : Nat) : Int), 0) := by
  show wdivide 7 a b = _
  have hb : ((b : Int) == 0) = false := by simp; omega
  unfold wdivide
  rw [hb]
  show (IntKind.u32.wrap ((a : Int).tdiv b), (0 : Int)) = _
  have h2 : a / b ≤ a := Nat.div_le_self a b
  rw [Int.tdiv_eq_ediv_of_nonneg (by omega), ← Int.natCast_ediv, wrapN_u32 (by omega)]
theorem wapp_mod {a b : Nat} (h : ¬ b = 0) : wapp 8 a b = (((a % b : Nat) : Int), 0) := by
  show wdivide 8 a b = _
  have hb : ((b : Int) == 0) = false := by simp; omega
  unfold wdivide
  rw [hb]
  show ((a : Int).tmod b, (0 : Int)) = _
  rw [Int.tmod_eq_emod_of_nonneg (by omega)]; rfl
theorem wapp_both {op : Int} {a b : Nat} (ha : a < 4294967296) (hb : b < 4294967296) (ho : op = 9 ∨ op = 10 ∨ op = 11) : wapp op a b = (((valB (bothN op a b) : Nat) : Int), 0) := both_wapp (isW_nat ha) (isW_nat hb) ho
theorem wapp_shift {op : Int} {a b : Nat} (ho : op = 12 ∨ op = 13) : wapp op a b = (wshift op a b, 0) := by
  rcases ho with rfl | rfl <;> rfl
theorem wshift_big (op : Int) {a b : Nat} (h : 32 ≤ b) : wshift op a b = 0 := by
  unfold wshift
  rw [show decide ((b : Int) > 31) = true by simp; omega]; rfl
theorem wshift_small {op : Int} {a b : Nat} (ha : a < 4294967296) (hb : b < 32) (ho : op = 12 ∨ op = 13) : wshift op a b = (shN op a b : Nat) := shN_wshift (isW_nat ha) (by omega) (by omega) ho
theorem wapp_lt (a b : Int) : wapp 14 a b = (bif decide (a < b) then 1 else 0, 0) := by
  show (wcompare 14 a b, (0 : Int)) = _
  simp [wcompare]
theorem wapp_eq (a b : Int) : wapp 15 a b = (bif a == b then 1 else 0, 0) := by
  show (wcompare 15 a b, (0 : Int)) = _
  simp [wcompare]
end Go.Proofs.Ytidfabbnobipkaa.Sv
