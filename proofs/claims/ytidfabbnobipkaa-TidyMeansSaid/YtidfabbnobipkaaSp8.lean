/-
  WORDS BIT BY BIT, AS THE DOCUMENT'S ANSWER HAS THEM, IN PLAIN LEAN: own work, over no program.
-/
import Derived.Test.YtidfabbnobipkaaSp3
namespace Go.Proofs.Ytidfabbnobipkaa.Sv
open Go
set_option linter.unusedVariables false
set_option linter.unusedSimpArgs false

/-- a number of its bits, the low end first -/
def valB : List Nat → Nat
  | [] => 0
  | b :: r => b + 2 * valB r
theorem valB_testBit : ∀ (l : List Nat) (j : Nat), (∀ b ∈ l, b < 2) → (valB l).testBit j = ((l[j]?).getD 0 == 1)
  | [], j, _ => by simp [valB]
  | b :: r, 0, h => by
    have hb := h b (by simp)
    simp only [valB, List.getElem?_cons_zero, Option.getD_some, Nat.testBit_zero]
    have : (b + 2 * valB r) % 2 = b := by omega
    rw [this]
    rcases (by omega : b = 0 ∨ b = 1) with rfl | rfl <;> rfl
  | b :: r, j + 1, h => by
    have hb := h b (by simp)
    have ih := valB_testBit r j (fun c hc => h c (by simp [hc]))
    simp only [valB, List.getElem?_cons_succ, Nat.testBit_succ]
    have : (b + 2 * valB r) / 2 = valB r := by omega
    rw [this, ih]
theorem valB_lt : ∀ (l : List Nat), (∀ b ∈ l, b < 2) → valB l < 2 ^ l.length
  | [], _ => by simp [valB]
  | b :: r, h => by
    have hb := h b (by simp)
    have ih := valB_lt r (fun c hc => h c (by simp [hc]))
    simp only [valB, List.length_cons, Nat.pow_succ]
    omega
def bitsN (n k : Nat) : List Nat := (List.range k).map fun i => n / 2 ^ i % 2
theorem bitsN_get {n k i : Nat} (h : i < k) : (bitsN n k)[i]? = some (n / 2 ^ i % 2) := by
  simp [bitsN, h]
/-- what the three operations make of two bits -/
def bop (op : Int) (x y : Nat) : Nat := bif (x + y == 2 && op != 11) || (!(x + y == 2 && op != 11) && (x + y == 1 && op != 9)) then 1 else 0
def bothN (op : Int) (a b : Nat) : List Nat := (List.range 32).map fun i => bop op (a / 2 ^ i % 2) (b / 2 ^ i % 2)
theorem bop_lt (op : Int) (x y : Nat) : bop op x y < 2 := by
  unfold bop
  cases (x + y == 2 && op != 11) || (!(x + y == 2 && op != 11) && (x + y == 1 && op != 9)) <;> simp
theorem testBit_div (n i : Nat) : n.testBit i = (n / 2 ^ i % 2 == 1) := by
  rw [Nat.testBit_eq_decide_div_mod_eq]
  cases h : decide (n / 2 ^ i % 2 = 1) <;> simp at h ⊢ <;> exact h
theorem bothN_testBit {op : Int} {a b j : Nat} : (valB (bothN op a b)).testBit j = (decide (j < 32) && (bop op (a / 2 ^ j % 2) (b / 2 ^ j % 2) == 1)) := by
  rw [valB_testBit _ _ (fun c hc => by simp only [bothN, List.mem_map] at hc; obtain ⟨i, _, rfl⟩ := hc; exact bop_lt _ _ _)]
  by_cases hj : j < 32
  · simp [bothN, hj]
  · simp [bothN, hj]
theorem both_and {a b : Nat} (ha : a < 2 ^ 32) (hb : b < 2 ^ 32) : valB (bothN 9 a b) = a &&& b := by
  apply Nat.eq_of_testBit_eq
  intro j
  rw [bothN_testBit, Nat.testBit_and, testBit_div a, testBit_div b]
  by_cases hj : j < 32
  · rcases (by omega : a / 2 ^ j % 2 = 0 ∨ a / 2 ^ j % 2 = 1) with h1 | h1 <;> rcases (by omega : b / 2 ^ j % 2 = 0 ∨ b / 2 ^ j % 2 = 1) with h2 | h2 <;> simp [h1, h2, hj, bop]
  · have : a / 2 ^ j = 0 := Nat.div_eq_of_lt (Nat.lt_of_lt_of_le ha (Nat.pow_le_pow_right (by decide) (by omega)))
    simp [hj, this]
theorem both_or {a b : Nat} (ha : a < 2 ^ 32) (hb : b < 2 ^ 32) : valB (bothN 10 a b) = a ||| b := by
  apply Nat.eq_of_testBit_eq
  intro j
  rw [bothN_testBit, Nat.testBit_or, testBit_div a, testBit_div b]
  by_cases hj : j < 32
  · rcases (by omega : a / 2 ^ j % 2 = 0 ∨ a / 2 ^ j % 2 = 1) with h1 | h1 <;> rcases (by omega : b / 2 ^ j % 2 = 0 ∨ b / 2 ^ j % 2 = 1) with h2 | h2 <;> simp [h1, h2, hj, bop]
  · have h1 : a / 2 ^ j = 0 := Nat.div_eq_of_lt (Nat.lt_of_lt_of_le ha (Nat.pow_le_pow_right (by decide) (by omega)))
    have h2 : b / 2 ^ j = 0 := Nat.div_eq_of_lt (Nat.lt_of_lt_of_le hb (Nat.pow_le_pow_right (by decide) (by omega)))
    simp [hj, h1, h2]
theorem both_xor {a b : Nat} (ha : a < 2 ^ 32) (hb : b < 2 ^ 32) : valB (bothN 11 a b) = a ^^^ b := by
  apply Nat.eq_of_testBit_eq
  intro j
  rw [bothN_testBit, Nat.testBit_xor, testBit_div a, testBit_div b]
  by_cases hj : j < 32
  · rcases (by omega : a / 2 ^ j % 2 = 0 ∨ a / 2 ^ j % 2 = 1) with h1 | h1 <;> rcases (by omega : b / 2 ^ j % 2 = 0 ∨ b / 2 ^ j % 2 = 1) with h2 | h2 <;> simp [h1, h2, hj, bop]
  · have h1 : a / 2 ^ j = 0 := Nat.div_eq_of_lt (Nat.lt_of_lt_of_le ha (Nat.pow_le_pow_right (by decide) (by omega)))
    have h2 : b / 2 ^ j = 0 := Nat.div_eq_of_lt (Nat.lt_of_lt_of_le hb (Nat.pow_le_pow_right (by decide) (by omega)))
    simp [hj, h1, h2]

/-! ### as integers -/
theorem ofInt_w {a : Int} (h : isW a) : BitVec.ofInt IntKind.u32.bits a = BitVec.ofNat 32 a.toNat := by
  obtain ⟨h1, h2⟩ := h
  obtain ⟨n, rfl⟩ := Int.eq_ofNat_of_zero_le h1
  show BitVec.ofInt 32 (n : Int) = _
  rw [BitVec.ofInt_natCast]; rfl
theorem wrap_w {n : Nat} (h : n < 2 ^ 32) : IntKind.u32.wrap (n : Int) = (n : Int) := by
  rw [IntKind.wrap_u32]; omega
theorem nat_w {a : Int} (h : isW a) : a.toNat < 2 ^ 32 := by
  obtain ⟨h1, h2⟩ := h; omega
theorem both_wapp {op a b : Int} (ha : isW a) (hb : isW b) (ho : op = 9 ∨ op = 10 ∨ op = 11) : wapp op a b = ((valB (bothN op a.toNat b.toNat) : Int), 0) := by
  have h1 := nat_w ha
  have h2 := nat_w hb
  have e1 : (BitVec.ofNat 32 a.toNat).toNat = a.toNat := by rw [BitVec.toNat_ofNat]; omega
  have e2 : (BitVec.ofNat 32 b.toNat).toNat = b.toNat := by rw [BitVec.toNat_ofNat]; omega
  rcases ho with rfl | rfl | rfl
  · have : wapp 9 a b = (IntKind.u32.wrap ((BitVec.ofInt IntKind.u32.bits a &&& BitVec.ofInt IntKind.u32.bits b).toNat), 0) := rfl
    rw [this, ofInt_w ha, ofInt_w hb, both_and h1 h2]
    have h3 : (BitVec.ofNat 32 a.toNat &&& BitVec.ofNat 32 b.toNat).toNat = a.toNat &&& b.toNat := by rw [BitVec.toNat_and, e1, e2]
    rw [← h3]
    exact congrArg (·, 0) (wrap_w (BitVec.isLt _))
  · have : wapp 10 a b = (IntKind.u32.wrap ((BitVec.ofInt IntKind.u32.bits a ||| BitVec.ofInt IntKind.u32.bits b).toNat), 0) := rfl
    rw [this, ofInt_w ha, ofInt_w hb, both_or h1 h2]
    have h3 : (BitVec.ofNat 32 a.toNat ||| BitVec.ofNat 32 b.toNat).toNat = a.toNat ||| b.toNat := by rw [BitVec.toNat_or, e1, e2]
    rw [← h3]
    exact congrArg (·, 0) (wrap_w (BitVec.isLt _))
  · have : wapp 11 a b = (IntKind.u32.wrap ((BitVec.ofInt IntKind.u32.bits a ^^^ BitVec.ofInt IntKind.u32.bits b).toNat), 0) := rfl
    rw [this, ofInt_w ha, ofInt_w hb, both_xor h1 h2]
    have h3 : (BitVec.ofNat 32 a.toNat ^^^ BitVec.ofNat 32 b.toNat).toNat = a.toNat ^^^ b.toNat := by rw [BitVec.toNat_xor, e1, e2]
    rw [← h3]
    exact congrArg (·, 0) (wrap_w (BitVec.isLt _))
/-- shifted one place after the other -/
def shN (op : Int) : Nat → Nat → Nat
  | n, 0 => n
  | n, k + 1 => bif op == 12 then 2 * shN op n k % 4294967296 else shN op n k / 2
theorem shN_lt {op : Int} {n : Nat} (h : n < 4294967296) : ∀ k, shN op n k < 4294967296
  | 0 => h
  | k + 1 => by
    unfold shN
    have := shN_lt (op := op) h k
    cases op == 12 with
    | true => exact Nat.mod_lt _ (by decide)
    | false => simp only [cond_false]; omega
theorem shN_shl {n : Nat} : ∀ k, shN 12 n k % 4294967296 = n * 2 ^ k % 4294967296
  | 0 => by simp [shN]
  | k + 1 => by
    have ih := shN_shl (n := n) k
    have e : shN 12 n (k + 1) = 2 * shN 12 n k % 4294967296 := rfl
    rw [e, Nat.mod_mod, Nat.mul_mod, ih, ← Nat.mul_mod, Nat.pow_succ]
    congr 1
    rw [Nat.mul_comm 2, Nat.mul_assoc]
theorem shN_shr {op : Int} (ho : (op == 12) = false) {n : Nat} : ∀ k, shN op n k = n / 2 ^ k
  | 0 => by simp [shN]
  | k + 1 => by
    have ih := shN_shr ho (n := n) k
    have e : shN op n (k + 1) = shN op n k / 2 := by rw [shN, ho]; rfl
    rw [e, ih, Nat.div_div_eq_div_mul, Nat.pow_succ]
theorem shN_wshift {op a b : Int} (ha : isW a) (hb : 0 ≤ b) (hb2 : ¬ b > 31) (ho : op = 12 ∨ op = 13) : wshift op a b = ((shN op a.toNat b.toNat : Nat) : Int) := by
  have h1 := nat_w ha
  have hd : decide (b > 31) = false := by simpa using hb2
  have hmin : min b.toNat IntKind.u32.bits = b.toNat := by
    show min b.toNat 32 = b.toNat
    omega
  obtain ⟨n, rfl⟩ := Int.eq_ofNat_of_zero_le ha.1
  unfold wshift
  rw [hd, hmin]
  simp only [cond_false, Int.toNat_natCast]
  rcases ho with rfl | rfl
  · have h3 := shN_shl (n := n) b.toNat
    have h4 := shN_lt (op := 12) (n := n) (by simpa using h1) b.toNat
    show IntKind.u32.wrap ((n : Int) * 2 ^ b.toNat) = _
    rw [Nat.mod_eq_of_lt h4] at h3
    rw [h3, IntKind.wrap_u32, Int.natCast_emod, Int.natCast_mul, Int.natCast_pow]
    rfl
  · rw [shN_shr (by rfl)]
    show Int.fdiv (n : Int) (2 ^ b.toNat) = _
    have hp : (0 : Int) ≤ 2 ^ b.toNat := Int.le_of_lt (Int.pow_pos (by omega))
    rw [Int.fdiv_eq_ediv_of_nonneg _ hp, Int.natCast_ediv, Int.natCast_pow]
    rfl

end Go.Proofs.Ytidfabbnobipkaa.Sv
