/-
  WHAT THE DOCUMENT'S CHAPTERS SAY OF PROGRAMS IN BLOCKS, IN PLAIN LEAN: own work, over no program.
-/
import Derived.Test.YtidfabbnobipkaaSv19
namespace Go.Proofs.Ytidfabbnobipkaa.Sv
open Go
set_option linter.unusedVariables false

def setsOp (op : Int) : Bool := op == 1 || (op == 2 || (op == 3 || (op == 4 || (op == 6 || op == 8))))
def Tac.sets (t : Tac) : Int := bif setsOp t.op then t.d else -1
def use1 (op : Int) : Bool := op == 2 || (op == 5 || (op == 6 || op == 9))
def use2 (op : Int) : Bool := op == 3 || op == 7
def Tac.uses (t : Tac) : List Int := bif use1 t.op then [t.a] else bif use2 t.op then [t.a, t.b] else []
theorem uses_len (t : Tac) : t.uses.length ≤ 2 := by
  unfold Tac.uses
  cases use1 t.op <;> cases use2 t.op <;> simp
def within (i n : Int) : Bool := decide (0 ≤ i) && decide (i < n)
theorem use12 (op : Int) : (use1 op && use2 op) = false := by
  rw [Bool.eq_false_iff]; intro h
  simp only [use1, use2, Bool.and_eq_true, Bool.or_eq_true, beq_iff_eq] at h
  omega
def baseOp (op : Int) : Bool := op == 4 || op == 5
def arrOp (op : Int) : Bool := op == 6 || op == 7
def Tac.want (t : Tac) : Tac where
  op := t.op
  d := bif setsOp t.op then t.d else 0
  a := bif use1 t.op || use2 t.op then t.a else 0
  b := bif use2 t.op then t.b else 0
  k := bif t.op == 3 then t.k else 0
  base := bif baseOp t.op || (arrOp t.op || t.op == 10) then t.base else 0
  size := bif arrOp t.op then t.size else 0
  n := bif t.op == 1 then t.n else 0
def Tac.same (x y : Tac) : Bool := x.op == y.op && (x.d == y.d && (x.a == y.a && (x.b == y.b && (x.k == y.k && (x.base == y.base && (x.size == y.size && (x.n == y.n && true)))))))
theorem Tac.same_iff (x y : Tac) : x.same y = true ↔ x = y := by
  have h1 := Tac.eqCells x y
  have h2 : Sv.eqCells x.cells y.cells = some (x.same y) := rfl
  rw [h1] at h2
  have h3 : decide (x = y) = x.same y := by simpa using h2
  rw [← h3, decide_eq_true_iff]
def Tac.rest (t : Tac) (f words : Int) : Bool :=
  bif t.op == 3 then decide (4 ≤ t.k) && decide (t.k ≤ 15)
  else bif baseOp t.op then within t.base words
  else bif arrOp t.op then decide (1 ≤ t.size) && (decide (t.size ≤ 4096) && (decide (0 ≤ t.base) && decide (t.base ≤ words - t.size)))
  else bif t.op == 10 then within t.base f
  else true
def Tac.fits (t : Tac) (f regs words : Int) : Bool :=
  decide (1 ≤ t.op) && (decide (t.op ≤ 10) && ((!setsOp t.op || within t.d regs) && (t.uses.all (fun r => within r regs) && (t.rest f words && t.same t.want))))
theorem sets_pos {t : Tac} (h : decide (t.sets ≥ 0) = true) : setsOp t.op = true := by
  unfold Tac.sets at h
  cases e : setsOp t.op with
  | true => rfl
  | false => rw [e] at h; simp at h
theorem fits_op {t : Tac} {f regs words : Int} (h : ¬ (1 ≤ t.op ∧ t.op ≤ 10)) : t.fits f regs words = false := by
  rw [Bool.eq_false_iff]
  intro h2
  simp only [Tac.fits, Bool.and_eq_true, decide_eq_true_eq] at h2
  exact h ⟨h2.1, h2.2.1⟩
theorem fits_d {t : Tac} {f regs words : Int} (h : setsOp t.op = true) (h2 : within t.d regs = false) : t.fits f regs words = false := by
  simp [Tac.fits, h, h2]
theorem fits_use {t : Tac} {f regs words : Int} (h : t.uses.all (fun r => within r regs) = false) : t.fits f regs words = false := by
  simp only [Tac.fits, h, Bool.false_and, Bool.and_false]
theorem fits_rest {t : Tac} {f regs words : Int} (h : t.rest f words = false) : t.fits f regs words = false := by
  simp only [Tac.fits, h, Bool.false_and, Bool.and_false]
theorem fits_same {t : Tac} {f regs words : Int} (h1 : decide (t.op < 1) = false) (h2 : decide (t.op > 10) = false) (hd : (!setsOp t.op || within t.d regs) = true) (hu : t.uses.all (fun r => within r regs) = true) (hr : t.rest f words = true) : t.fits f regs words = t.same t.want := by
  have h1' : decide (1 ≤ t.op) = true := by simp at h1 ⊢; omega
  have h2' : decide (t.op ≤ 10) = true := by simp at h2 ⊢; omega
  simp only [Tac.fits, h1', h2', hd, hu, hr, Bool.true_and]
def Block.ends (b : Block) (blocks regs : Int) : Bool :=
  bif b.fin == 1 then within b.to blocks && (b.v == 0 && b.els == 0)
  else bif b.fin == 2 then within b.to blocks && (within b.els blocks && within b.v regs)
  else b.fin == 3 && (b.v == 0 && (b.to == 0 && b.els == 0))
def Block.ok (x : Block) (blocks regs number words : Int) : Bool := x.ends blocks regs && x.ins.all (fun t => t.fits number regs words)
def BFunc.one (f : BFunc) (number words : Int) : Bool :=
  decide (0 ≤ f.regs) && (decide (f.regs ≤ 4000) && (!f.blocks.isEmpty && f.blocks.all (fun x => x.ok f.blocks.length f.regs number words)))
def Blocks.right (b : Blocks) : Bool :=
  decide (0 ≤ b.words) && (decide (b.words ≤ 1048576) && (!b.funcs.isEmpty && b.funcs.zipIdx.all (fun p => p.1.one (p.2 : Int) b.words)))
def Block.count (x : Block) : Nat := 1 + x.ins.length
def BFunc.count (f : BFunc) : Nat := (f.blocks.map Block.count).sum
def Blocks.count (b : Blocks) : Nat := (b.funcs.map BFunc.count).sum
def BFunc.low (f : BFunc) : Bool := decide (f.regs ≤ 60) && decide (f.blocks.length ≤ 40)
def Blocks.small (b : Blocks) (most : Int) : Bool :=
  decide (b.words ≤ 500) && (decide (b.funcs.length ≤ 10) && (b.funcs.all BFunc.low && (decide ((b.count : Int) ≤ most) && b.right)))

theorem one_bad {f : BFunc} {number words : Int} (h : ¬ (0 ≤ f.regs ∧ f.regs ≤ 4000 ∧ f.blocks.length ≠ 0)) : f.one number words = false := by
  rw [Bool.eq_false_iff]; intro h2
  simp only [BFunc.one, Bool.and_eq_true, decide_eq_true_eq, Bool.not_eq_true', List.isEmpty_eq_false_iff] at h2
  exact h ⟨h2.1, h2.2.1, fun e => h2.2.2.1 (List.length_eq_zero_iff.1 e)⟩
theorem one_all {f : BFunc} {number words : Int} (h1 : 0 ≤ f.regs) (h2 : f.regs ≤ 4000) (h3 : f.blocks.length ≠ 0) : f.one number words = f.blocks.all (fun x => x.ok f.blocks.length f.regs number words) := by
  have h3' : f.blocks.isEmpty = false := by
    rw [List.isEmpty_eq_false_iff]; intro e; rw [e] at h3; exact h3 rfl
  simp only [BFunc.one, decide_eq_true h1, decide_eq_true h2, h3', Bool.not_false, Bool.true_and]
theorem right_bad {b : Blocks} (h : ¬ (0 ≤ b.words ∧ b.words ≤ 1048576 ∧ b.funcs.length ≠ 0)) : b.right = false := by
  rw [Bool.eq_false_iff]; intro h2
  simp only [Blocks.right, Bool.and_eq_true, decide_eq_true_eq, Bool.not_eq_true', List.isEmpty_eq_false_iff] at h2
  exact h ⟨h2.1, h2.2.1, fun e => h2.2.2.1 (List.length_eq_zero_iff.1 e)⟩
theorem right_all {b : Blocks} (h1 : 0 ≤ b.words) (h2 : b.words ≤ 1048576) (h3 : b.funcs.length ≠ 0) : b.right = b.funcs.zipIdx.all (fun p => p.1.one (p.2 : Int) b.words) := by
  have h3' : b.funcs.isEmpty = false := by
    rw [List.isEmpty_eq_false_iff]; intro e; rw [e] at h3; exact h3 rfl
  simp only [Blocks.right, decide_eq_true h1, decide_eq_true h2, h3', Bool.not_false, Bool.true_and]

/-! ### loops that look at all elements -/
theorem all_succ {α : Type} {l : List α} {p : α → Bool} {k : Nat} {x : α} (hx : l[k]? = some x) (h : (l.take k).all p = true) (hp : p x = true) : (l.take (k + 1)).all p = true := by
  rw [take_succ_eq hx, List.all_append, h]; simp [hp]
theorem all_bad {α : Type} {l : List α} {p : α → Bool} {k : Nat} {x : α} (hx : l[k]? = some x) (hp : p x = false) : l.all p = false := by
  rw [Bool.eq_false_iff]
  intro h
  rw [List.all_eq_true.1 h x (List.mem_of_getElem? hx)] at hp
  cases hp
theorem all_end {α : Type} {l : List α} {p : α → Bool} {k : Nat} (h : (l.take k).all p = true) (hk : l.length ≤ k) : l.all p = true := by
  rwa [List.take_of_length_le hk] at h
theorem sum_succ {α : Type} {l : List α} {p : α → Nat} {k : Nat} {x : α} (hx : l[k]? = some x) : ((l.take (k + 1)).map p).sum = ((l.take k).map p).sum + p x := by
  rw [take_succ_eq hx, List.map_append, List.sum_append]; simp
theorem sum_end {α : Type} {l : List α} {p : α → Nat} {k : Nat} (hk : l.length ≤ k) : ((l.take k).map p).sum = (l.map p).sum := by
  rw [List.take_of_length_le hk]
theorem zipIdx_get {α : Type} {l : List α} {k : Nat} {x : α} (hx : l[k]? = some x) : l.zipIdx[k]? = some (x, k) := by
  rw [List.getElem?_zipIdx, hx]; simp
theorem sum_le {α : Type} {p : α → Nat} {m : Nat} : ∀ {l : List α}, (∀ x ∈ l, p x ≤ m) → (l.map p).sum ≤ l.length * m
  | [], _ => by simp
  | x :: l, h => by
    have h1 := h x (by simp)
    have h2 := sum_le (l := l) (fun y hy => h y (by simp [hy]))
    simp only [List.map_cons, List.sum_cons, List.length_cons, Nat.add_mul]
    omega
/-- no slice is longer than what 2^47 bytes hold -/
def big : Nat := 140737488355328
def Block.tight (x : Block) : Prop := x.ins.length ≤ big
def BFunc.tight (f : BFunc) : Prop := ∀ x ∈ f.blocks, x.tight
def Blocks.tight (b : Blocks) : Prop := ∀ f ∈ b.funcs, f.tight
theorem count_le {l : List Block} {m : Nat} (h1 : ∀ x ∈ l, x.tight) (h2 : l.length ≤ m) : (l.map Block.count).sum ≤ m * (1 + big) := by
  have := sum_le (l := l) (p := Block.count) (m := 1 + big) (fun x hx => by have := h1 x hx; simp only [Block.tight] at this; simp only [Block.count]; omega)
  exact Nat.le_trans this (Nat.mul_le_mul_right _ h2)
theorem counts_le {l : List BFunc} {m : Nat} (h1 : ∀ x ∈ l, x.tight) (h2 : l.all BFunc.low = true) (h3 : l.length ≤ m) : (l.map BFunc.count).sum ≤ m * (40 * (1 + big)) := by
  have := sum_le (l := l) (p := BFunc.count) (m := 40 * (1 + big)) (fun x hx => by
    have h := List.all_eq_true.1 h2 x hx
    simp only [BFunc.low, Bool.and_eq_true, decide_eq_true_eq] at h
    exact count_le (h1 x hx) h.2)
  exact Nat.le_trans this (Nat.mul_le_mul_right _ h3)
theorem count_step {n m len : Nat} (h1 : n ≤ 10 * (40 * (1 + big))) (h2 : m ≤ 40 * (1 + big)) (h3 : len ≤ big) : evalBin .add (.int .i64 (IntKind.i64.wrap (((n + m : Nat) : Int) + 1))) (.int .i64 (len : Int)) = some (.int .i64 ((n + (m + (1 + len)) : Nat) : Int)) := by
  simp only [big] at h1 h2 h3
  rw [wrap_i64 (by omega) (by omega)]
  show some (AV.int .i64 (IntKind.i64.wrap _)) = _
  rw [wrap_i64 (by omega) (by omega)]
  congr 2
  omega
theorem Cert.ext' {c d : Cert} (h : c.same = d.same) : c = d := by cases c; cases d; simp_all
theorem small_bad1 {b : Blocks} {most : Int} (h : ¬ (b.words ≤ 500 ∧ b.funcs.length ≤ 10)) : b.small most = false := by
  rw [Bool.eq_false_iff]; intro h2
  simp only [Blocks.small, Bool.and_eq_true, decide_eq_true_eq] at h2
  exact h ⟨h2.1, h2.2.1⟩
theorem small_bad2 {b : Blocks} {most : Int} (h : b.funcs.all BFunc.low = false) : b.small most = false := by
  simp only [Blocks.small, h, Bool.false_and, Bool.and_false]
theorem small_all {b : Blocks} {most : Int} (h1 : b.words ≤ 500) (h2 : b.funcs.length ≤ 10) (h3 : b.funcs.all BFunc.low = true) : b.small most = (decide ((b.count : Int) ≤ most) && b.right) := by
  simp only [Blocks.small, decide_eq_true h1, decide_eq_true h2, h3, Bool.true_and]
theorem BFunc.ext' {f g : BFunc} (h1 : f.regs = g.regs) (h2 : f.blocks = g.blocks) : f = g := by cases f; cases g; simp_all
theorem take_all {α : Type} {l l' : List α} {k : Nat} (h : l.take k = l'.take k) (h1 : l.length ≤ k) (h2 : l'.length ≤ k) : l = l' := by
  rwa [List.take_of_length_le h1, List.take_of_length_le h2] at h

end Go.Proofs.Ytidfabbnobipkaa.Sv
