/-
  THE CODE'S CHECKS OF INSTRUCTIONS ARE THE DOCUMENT'S, IN PLAIN LEAN: own work, over no program.
  SIZES AND SAMENESS OF PROGRAMS, IN PLAIN LEAN: own work, over no program.
  LAW 35, IN PLAIN LEAN: what is small; passes one behind the other: own work.
  HOW THINGS READ, WITH THEIR BULK: own work.
  Short names for the commonest steps of a walk (what is said of them is found by rfl).
  A slice that is copied behind nothing: own work.
  What is put behind nothing, or behind a list, may hold slices: own work.
  FAMILIES OF ROWS, whose numbers are told by a function; DRAWN REGIONS IN WHICH CALLS MAKE FAMILIES: own work, over no program.
  THE FIELD OF A STRUCT'S VALUE: own work, over no program.
  MANY STEPS AT ONCE: steps that leave the rows alone are done by computing. Own work, over no program.
  INTERFACE VALUES, AND FUNCTION VALUES THAT ARE KNOWN: own work, over no program.
  AN EVALUATOR FOR INPUTS THAT ARE KNOWN (1): single steps. Own work, over no program.
  CALLS THAT ARE GONE THROUGH WHERE THEY STAND: own work, over no program.
  AN EVALUATOR FOR INPUTS THAT ARE KNOWN (2): steps that change rows. Own work, over no program.
  A RANGE OVER A MAP THAT IS NIL: own work, over no program.
  AN EVALUATOR FOR INPUTS THAT ARE KNOWN (3): maps whose keys are numbers, equality, ranges over nil maps. Own work, over no program.
  AN EVALUATOR FOR INPUTS THAT ARE KNOWN (8): maps whose keys are arrays of numbers, arrays, slices, strings of bytes. Own work, over no program.
  AN EVALUATOR FOR INPUTS THAT ARE KNOWN (4): regions. Own work, over no program.
  AN EVALUATOR FOR INPUTS THAT ARE KNOWN (9): rows are frozen in thought. Own work, over no program.
  AN EVALUATOR FOR INPUTS THAT ARE KNOWN (5): code, and calls. Own work, over no program.
  AN EVALUATOR FOR INPUTS THAT ARE KNOWN (6): regions in no order. Own work, over no program.
  AN EVALUATOR FOR INPUTS THAT ARE KNOWN (7): code and calls. Own work, over no program.
  AN EVALUATOR FOR INPUTS THAT ARE KNOWN (8): calls of plain data, with results that are frozen where they end. Own work, over no program.
  PROGRAMS THAT PUT A BYTE, IN PLAIN LEAN: own work, over no program.
  THE LITTLE PROGRAM OF LAW 35, IN PLAIN LEAN: own work, over no program.
  LAW 35'S LITTLE PROGRAM: what the evaluator is told. Own work.
  LAW 35'S LITTLE PROGRAM, EVALUATED: own work.
  WHAT MATTERS AHEAD OF A BLOCK, AND LEAVING OUT WHAT IS DEAD, ONE BY ONE: own work.
  A PROGRAM WITHOUT WHAT IS DEAD ENDS ALIKE, IN NO MORE STEPS, in plain Lean: own work.
  WHAT MATTERS, IN ROWS: own work.
  WHAT MATTERS, AS IT LIES IN MEMORY: own work.
  THE ROUNDS OF THE DOCUMENT'S ANSWER ON WHAT MATTERS: own work.
  WHAT IS DEAD NOW, AND LEFT OUT AT ONCE: own work.
  SETS OF REGISTERS, 64 IN EACH NUMBER: own work.
  WHAT A BLOCK READS AHEAD OF SETTING IT: instruction by instruction, the last one first. Own work.
  WALKS: printed by a program of our own from the code's tree.
  WALKS IN A ROUND OF A RANGE OVER A FUNCTION: own work, over no program.
-/
import Derived.Test.YtbbfelelocccmaaGreatPOptimizeTrue2
import Derived.Test.YtbbfelelocccmaaGreatPOptimizeTrue3
import Derived.Test.YtbbfelelocccmaaGreatPOptimizeTrue1
import Derived.RangeFuncFrom
import Derived.TacticsIn
set_option linter.unusedVariables false
set_option linter.unusedSimpArgs false
set_option maxRecDepth 100000
set_option maxHeartbeats 2000000
namespace Go.Proofs.YtbbfelelocccmaaGreat.Sv
open Go
def readsN (op : Int) : Int := bif use1 op then 1 else bif use2 op then 2 else 0
def Tac.rest2 (t : Tac) (f words : Int) : Bool :=
  !((t.op != 1 && t.n != 0) || (t.op != 3 && t.k != 0)) && (!(!arrOp t.op && t.size != 0) &&
  (bif t.op == 1 || (t.op == 2 || (t.op == 8 || t.op == 9)) then t.base == 0
   else bif t.op == 3 then t.base == 0 && (decide (t.k ≥ 4) && decide (t.k ≤ 15))
   else bif t.op == 4 || t.op == 5 then decide (t.base ≥ 0) && decide (t.base < words)
   else bif t.op == 6 || t.op == 7 then decide (t.size ≥ 1) && (decide (t.size ≤ 4096) && (decide (t.base ≥ 0) && decide (t.base ≤ words - t.size)))
   else bif t.op == 10 then decide (t.base ≥ 0) && decide (t.base < f) else false))
def Tac.ins2 (t : Tac) (f regs words : Int) : Bool :=
  (bif setsOp t.op then within t.d regs else t.d == 0) &&
  ((bif use1 t.op then within t.a regs && t.b == 0 else bif use2 t.op then within t.a regs && within t.b regs else t.a == 0 && t.b == 0) &&
   t.rest2 f words)
theorem op_cases {op : Int} (h1 : 1 ≤ op) (h2 : op ≤ 10) : op = 1 ∨ op = 2 ∨ op = 3 ∨ op = 4 ∨ op = 5 ∨ op = 6 ∨ op = 7 ∨ op = 8 ∨ op = 9 ∨ op = 10 := by omega
theorem ins2_fits (t : Tac) (f regs words : Int) : t.ins2 f regs words = t.fits f regs words := by
  by_cases h : 1 ≤ t.op ∧ t.op ≤ 10
  · obtain ⟨op, d, a, b, k, base, size, n⟩ := t
    rw [Bool.eq_iff_iff]
    rcases op_cases h.1 h.2 with e | e | e | e | e | e | e | e | e | e <;> (simp only at e; subst e; simp [Tac.ins2, Tac.fits, Tac.rest2, Tac.rest, Tac.same, Tac.want, Tac.uses, setsOp, use1, use2, baseOp, arrOp, within]) <;> (try omega) <;> (constructor <;> (intro h; simp [h]; try omega))
  · rw [fits_op h]
    have h1 : (t.op == 1) = false := (by rw [beq_eq_false_iff_ne]; omega)
    have h2 : (t.op == 2) = false := (by rw [beq_eq_false_iff_ne]; omega)
    have h3 : (t.op == 3) = false := (by rw [beq_eq_false_iff_ne]; omega)
    have h4 : (t.op == 4) = false := (by rw [beq_eq_false_iff_ne]; omega)
    have h5 : (t.op == 5) = false := (by rw [beq_eq_false_iff_ne]; omega)
    have h6 : (t.op == 6) = false := (by rw [beq_eq_false_iff_ne]; omega)
    have h7 : (t.op == 7) = false := (by rw [beq_eq_false_iff_ne]; omega)
    have h8 : (t.op == 8) = false := (by rw [beq_eq_false_iff_ne]; omega)
    have h9 : (t.op == 9) = false := (by rw [beq_eq_false_iff_ne]; omega)
    have h10 : (t.op == 10) = false := (by rw [beq_eq_false_iff_ne]; omega)
    simp [Tac.ins2, Tac.rest2, h1, h2, h3, h4, h5, h6, h7, h8, h9, h10]
theorem reads1 {op : Int} (h : readsN op = 1) : use1 op = true := by
  unfold readsN at h
  cases e : use1 op <;> cases e2 : use2 op <;> simp_all
theorem reads2 {op : Int} (h : readsN op = 2) : use1 op = false ∧ use2 op = true := by
  unfold readsN at h
  cases e : use1 op <;> cases e2 : use2 op <;> simp_all
theorem reads0 {op : Int} (h : readsN op = 0) : use1 op = false ∧ use2 op = false := by
  unfold readsN at h
  cases e : use1 op <;> cases e2 : use2 op <;> simp_all
theorem readsN_or (op : Int) : readsN op = 0 ∨ readsN op = 1 ∨ readsN op = 2 := by
  unfold readsN
  cases e : use1 op <;> cases e2 : use2 op <;> simp_all
def insSumB (l : List Block) : Nat := (l.map fun x => x.ins.length).sum
theorem insSumB_succ {l : List Block} {k : Nat} {x : Block} (h : l[k]? = some x) : insSumB (l.take (k + 1)) = insSumB (l.take k) + x.ins.length := by
  rw [insSumB, take_succ_eq h]; simp [insSumB]
theorem sum_take_le {α : Type} {l : List α} {p : α → Nat} {k : Nat} : ((l.take k).map p).sum ≤ (l.map p).sum := by
  conv => rhs; rw [← List.take_append_drop k l]
  rw [List.map_append, List.sum_append]; omega
theorem insSumB_take {l : List Block} {k : Nat} : insSumB (l.take k) ≤ insSumB l := sum_take_le
theorem count_sum (l : List Block) : (l.map Block.count).sum = l.length + insSumB l := by
  induction l with
  | nil => rfl
  | cons x l ih => simp only [List.map_cons, List.sum_cons, ih, List.length_cons, insSumB, Block.count]; omega
theorem count_split (f : BFunc) : f.count = f.blocks.length + insSumB f.blocks := count_sum f.blocks
theorem Block.ext5 {x y : Block} (h1 : x.fin = y.fin) (h2 : x.v = y.v) (h3 : x.to = y.to) (h4 : x.els = y.els) (h5 : x.ins = y.ins) : x = y := by
  cases x; cases y; simp_all
theorem Blocks.ext' {x y : Blocks} (h1 : x.words = y.words) (h2 : x.funcs = y.funcs) : x = y := by
  cases x; cases y; simp_all
def OPass.cells (p : OPass) : List AV := [.int .i64 p.kind, rowsAV p.cert.same, pathsAV p.paths, .int .i64 p.f.regs, blocksAV p.f.blocks]
def passesAV (l : List OPass) : AV := .lst false (l.map OPass.cells)
def listAV (ls : List (List OPass)) : AV := .lst false (ls.map fun l => [passesAV l])
structure Blocks.Lim (b : Blocks) : Prop where
  n : b.funcs.length ≤ 1048576
  c : b.count ≤ 1048576
structure BFunc.Lim (f : BFunc) : Prop where
  n : f.blocks.length ≤ 1048576
  c : ∀ x ∈ f.blocks, x.ins.length ≤ 1048576
theorem BFunc.lim_of {f : BFunc} (h : f.count ≤ 1048576) : f.Lim := by
  refine ⟨by have := count_split f; omega, fun x hx => ?_⟩
  have : x.count ≤ f.count := le_sum hx
  simp only [Block.count] at this
  omega
theorem BFunc.Lim.big {f : BFunc} (h : f.Lim) : f.blocks.length ≤ 1000000000000000 ∧ ∀ x ∈ f.blocks, x.ins.length ≤ 1000000000000000 :=
  ⟨Nat.le_trans h.n (by decide), fun x hx => Nat.le_trans (h.c x hx) (by decide)⟩
def low35 (f : BFunc) : Bool := decide (f.regs ≤ 30)
def small35 (b : Blocks) : Bool := decide (b.funcs.length ≤ 6) && (decide (b.words ≤ 400) && (b.right && (decide (b.count ≤ 200) && b.funcs.all low35)))
structure Small35 (b : Blocks) : Prop where
  n : b.funcs.length ≤ 6
  w : b.words ≤ 400
  r : b.right = true
  c : b.count ≤ 200
  g : ∀ f ∈ b.funcs, f.regs ≤ 30
theorem small35_of {b : Blocks} (h : small35 b = true) : Small35 b := by
  simp only [small35, Bool.and_eq_true, decide_eq_true_eq] at h
  exact ⟨h.1, h.2.1, h.2.2.1, h.2.2.2.1, fun f hf => of_decide_eq_true (List.all_eq_true.1 h.2.2.2.2 f hf)⟩
theorem low_take {l : List BFunc} {k : Nat} {f : BFunc} (h : l[k]? = some f) (h1 : (l.take k).all low35 = true) (h2 : f.regs ≤ 30) : (l.take (k + 1)).all low35 = true := by
  rw [List.take_add_one, h, List.all_append, h1]
  simp [low35, h2]
theorem low_no {l : List BFunc} {f : BFunc} (h : f ∈ l) (h2 : ¬ f.regs ≤ 30) : l.all low35 = false := by
  rw [Bool.eq_false_iff]
  intro e
  exact h2 (of_decide_eq_true (List.all_eq_true.1 e f h))
def kind35 (k : Int) : Bool := decide (1 ≤ k ∧ k ≤ 4)
theorem leadsAll_no {fs gs : List BFunc} {ls : List (List OPass)} {i : Nat} {f g : BFunc} {l : List OPass} (hf : fs[i]? = some f) (hg : gs[i]? = some g) (hl : ls[i]? = some l) (h : leadsL f g l = false) : leadsAll fs gs ls = false := by
  rw [Bool.eq_false_iff]
  intro e
  rw [leadsAll_get e hf hg hl] at h
  cases h
def ledTo (fs gs : List BFunc) (ls : List (List OPass)) (k : Nat) : Prop := ∀ i, i < k → ∀ f g l, fs[i]? = some f → gs[i]? = some g → ls[i]? = some l → leadsL f g l = true
theorem ledTo_succ {fs gs : List BFunc} {ls : List (List OPass)} {k : Nat} {f g : BFunc} {l : List OPass} (h : ledTo fs gs ls k) (hf : fs[k]? = some f) (hg : gs[k]? = some g) (hl : ls[k]? = some l) (e : leadsL f g l = true) : ledTo fs gs ls (k + 1) := fun i hi a b c ha hb hc => by
  rcases Nat.lt_or_ge i k with h1 | h1
  · exact h i h1 a b c ha hb hc
  · obtain rfl : i = k := by omega
    rw [hf] at ha; rw [hg] at hb; rw [hl] at hc
    cases ha; cases hb; cases hc
    exact e
theorem ledTo_end {fs gs : List BFunc} {ls : List (List OPass)} {k : Nat} (h : ledTo fs gs ls k) (hk : fs.length ≤ k) : leadsAll fs gs ls = true := leadsAll_of fun i f g l hf hg hl => h i (by have := (List.getElem?_eq_some_iff.1 hf).1; omega) f g l hf hg hl
def atP (f : BFunc) : List OPass → BFunc
  | [] => f
  | p :: r => atP p.f r
theorem atP_snoc (p : OPass) : ∀ (l : List OPass) (f : BFunc), atP f (l ++ [p]) = p.f
  | [], f => rfl
  | a :: l, f => atP_snoc p l a.f
theorem atP_succ {l : List OPass} {k : Nat} {p : OPass} (f : BFunc) (h : l[k]? = some p) : atP f (l.take (k + 1)) = p.f := by
  rw [List.take_add_one, h]; exact atP_snoc p _ f
theorem leadsL_app {g : BFunc} (m : List OPass) : ∀ (l : List OPass) (f : BFunc), leadsL f g (l ++ m) = (leadsL f (atP f l) l && leadsL (atP f l) g m)
  | [], f => by simp [leadsL, atP]
  | a :: l, f => by
    show (a.holds f && leadsL a.f g (l ++ m)) = _
    rw [leadsL_app m l a.f]
    show _ = ((a.holds f && leadsL a.f (atP a.f l) l) && leadsL (atP a.f l) g m)
    rw [Bool.and_assoc]
theorem leadsL_at {f g : BFunc} {l : List OPass} {k : Nat} {p : OPass} (h : l[k]? = some p) (hP : leadsL f (atP f (l.take k)) (l.take k) = true) : leadsL f g l = (p.holds (atP f (l.take k)) && leadsL p.f g (l.drop (k + 1))) := by
  have e : l = l.take k ++ (p :: l.drop (k + 1)) := by
    conv => lhs; rw [← List.take_append_drop k l]
    rw [List.drop_eq_getElem_cons (List.getElem?_eq_some_iff.1 h).1, (List.getElem?_eq_some_iff.1 h).2]
  conv => lhs; rw [e]
  rw [leadsL_app, hP]
  simp [leadsL]
theorem leadsL_succ {f : BFunc} {l : List OPass} {k : Nat} {p : OPass} (h : l[k]? = some p) (hP : leadsL f (atP f (l.take k)) (l.take k) = true) (e : p.holds (atP f (l.take k)) = true) : leadsL f (atP f (l.take (k + 1))) (l.take (k + 1)) = true := by
  rw [atP_succ f h, List.take_add_one, h]
  show leadsL f p.f (l.take k ++ [p]) = true
  rw [leadsL_app, hP]
  simp [leadsL, e]
theorem leadsL_bad {f g : BFunc} {l : List OPass} {k : Nat} {p : OPass} (h : l[k]? = some p) (hP : leadsL f (atP f (l.take k)) (l.take k) = true) (e : p.holds (atP f (l.take k)) = false) : leadsL f g l = false := by
  rw [leadsL_at h hP, e, Bool.false_and]
theorem leadsL_end {f g : BFunc} {l : List OPass} (hP : leadsL f (atP f l) l = true) : leadsL f g l = decide (atP f l = g) := by
  have := leadsL_app (g := g) [] l f
  rw [List.append_nil, hP] at this
  rw [this]; simp [leadsL]
theorem holds_kind {p : OPass} {f : BFunc} (h : kind35 p.kind = false) : p.holds f = false := by
  unfold OPass.holds
  have h4 : (p.kind == 4) = false := by
    rw [beq_eq_false_iff_ne]
    intro e
    rw [e] at h
    simp [kind35] at h
  rw [h4, cond_false]
  rw [show decide (1 ≤ p.kind ∧ p.kind ≤ 4) = false from h, Bool.false_and]
end Go.Proofs.YtbbfelelocccmaaGreat.Sv

namespace Go.Proofs.YtbbfelelocccmaaGreat
open Go Go.ChangeShapes Go.WideShapes Go.ChangeAt Go.RowKit Sv
section
variable {H : Type} {enc : TypeId × Value → H} {P : Program} {W : World} {t e : TypeId}
theorem bulk_one (d : DataW H) : 1 ≤ Rows.uptoBulk d := by
  cases d with
  | lit l => cases l <;> simp [Rows.uptoBulk]
  | _ => simp [Rows.uptoBulk]
theorem bulk_part : ∀ {l : List (DataW H)} {i : Nat} {d : DataW H}, l[i]? = some d → Rows.uptoBulk d ≤ Rows.uptoBulkAll l
  | x :: l, 0, d, h => by simp at h; subst h; simp only [Rows.uptoBulkAll]; omega
  | x :: l, i + 1, d, h => by
    have := bulk_part (l := l) (i := i) (by simpa using h)
    simp only [Rows.uptoBulkAll]; omega
theorem bulk_sum : ∀ (l : List (DataW H)), (l.map Rows.uptoBulk).sum = Rows.uptoBulkAll l
  | [] => by simp [Rows.uptoBulkAll]
  | x :: l => by simp only [List.map_cons, List.sum_cons, Rows.uptoBulkAll, bulk_sum l]
def DecR (enc : TypeId × Value → H) (P : Program) (W : World) (t : TypeId) {α : Type} (f : α → List AV) (Q : α → Nat → Prop) : Prop :=
  ∀ (fuel : Nat) (cs : List Value) (x : DataW H × List MemPlace), DataW.trod enc P W 0 (fun _ => true) true fuel t cs = some x → (x.1.weights P t).all (· ≤ reachBytes) = true → ∃ a, Reads W cs (f a) ∧ Q a (Rows.uptoBulk x.1)
theorem DecR.of {α : Type} {f : α → List AV} {Q : α → Prop} (h : Dec enc P W t f Q) : DecR enc P W t f (fun a n => Q a ∧ 1 ≤ n) := fun fuel cs x hx hw => by
  obtain ⟨a, h1, h2⟩ := h fuel cs x hx hw
  exact ⟨a, h1, h2, bulk_one _⟩
theorem DecR.mono {α : Type} {f : α → List AV} {Q Q' : α → Nat → Prop} (h : DecR enc P W t f Q) (hq : ∀ a n, Q a n → Q' a n) : DecR enc P W t f Q' := fun fuel cs x hx hw => by
  obtain ⟨a, h1, h2⟩ := h fuel cs x hx hw
  exact ⟨a, h1, hq _ _ h2⟩
def PartsQ {α : Type} (Q : α → Nat → Prop) (l : List α) (n : Nat) : Prop := ∃ ns : List Nat, ns.length = l.length ∧ ns.sum + 1 ≤ n ∧ ∀ (i : Nat) (a : α) (m : Nat), l[i]? = some a → ns[i]? = some m → Q a m
theorem PartsQ.all {α : Type} {Q : α → Nat → Prop} {l : List α} {n : Nat} (h : PartsQ Q l n) : ∀ a ∈ l, ∃ m, Q a m ∧ m + 1 ≤ n := fun a ha => by
  obtain ⟨ns, h1, h2, h3⟩ := h
  obtain ⟨i, hi⟩ := List.getElem?_of_mem ha
  obtain ⟨m, hm⟩ := get_of_lt (l := ns) (k := i) (by have := (List.getElem?_eq_some_iff.1 hi).1; omega)
  have : m ≤ ns.sum := by
    have := le_sum (p := id) (List.mem_of_getElem? hm)
    simpa using this
  exact ⟨m, h3 i a m hi hm, by omega⟩
theorem sum_le_of {α : Type} {μ : α → Nat} : ∀ {l : List α} {ns : List Nat}, ns.length = l.length → (∀ (i : Nat) (a : α) (m : Nat), l[i]? = some a → ns[i]? = some m → μ a ≤ m) → (l.map μ).sum ≤ ns.sum
  | [], _, _, _ => by simp
  | a :: l, [], h, _ => by simp at h
  | a :: l, m :: ns, h, hq => by
    have h1 := hq 0 a m rfl rfl
    have h2 := sum_le_of (l := l) (ns := ns) (by simpa using h) fun i b k hb hk => hq (i + 1) b k (by simpa using hb) (by simpa using hk)
    simp only [List.map_cons, List.sum_cons]; omega
theorem PartsQ.sum {α : Type} {Q : α → Nat → Prop} {l : List α} {n : Nat} (h : PartsQ Q l n) (μ : α → Nat) (hμ : ∀ a m, Q a m → μ a ≤ m) : (l.map μ).sum + 1 ≤ n := by
  obtain ⟨ns, h1, h2, h3⟩ := h
  have := sum_le_of (μ := μ) h1 fun i a m ha hm => hμ a m (h3 i a m ha hm)
  omega
theorem sum_ones {α : Type} : ∀ (l : List α), (l.map fun _ => 1).sum = l.length
  | [] => rfl
  | a :: l => by simp only [List.map_cons, List.sum_cons, List.length_cons, sum_ones l]; omega
theorem PartsQ.len {α : Type} {Q : α → Nat → Prop} {l : List α} {n : Nat} (h : PartsQ Q l n) (h1 : ∀ a m, Q a m → 1 ≤ m) : l.length + 1 ≤ n := by
  have := h.sum (fun _ => 1) h1
  rwa [sum_ones] at this
theorem DecR.slice {α : Type} {f : α → List AV} {Q : α → Nat → Prop} (ht : P.underlying t = some (.slice e)) (hc : 0 < P.cellsOf e) (he : DecR enc P W e f Q) :
    DecR enc P W t (fun l : List α => [.lst false (l.map f)]) (fun l n => l.length * P.bytesOf e ≤ reachBytes ∧ PartsQ Q l n) := fun fuel cs x h hw => by
  rcases DataW.trod_slice ht h with ⟨rfl, rfl⟩ | ⟨a, len, cap, elems, rest, n, rfl, rfl, rfl, hb, hl, hm, hlen, hel, hsp, hns⟩
  · exact ⟨[], .one (.lst0 _ _ _ _ (fun h => by cases h) (Nat.zero_le _) (fun _ => rfl) trivial) rfl, by simp, [], rfl, by simpa using bulk_one _, fun i a m h => by simp at h⟩
  simp only [DataW.weights, ht, List.all_cons, List.all_append, Bool.and_eq_true, decide_eq_true_eq, List.length_map] at hw
  obtain ⟨w1, w2, w3⟩ := hw
  have key : ∀ i, i < len → ∃ y, ∃ cs', W.cells? 0 (a.add (i * P.cellsOf e)) (P.cellsOf e) = some cs' ∧ Reads W cs' (f y) ∧ ∃ d, (elems.map (·.1))[i]? = some d ∧ Q y (Rows.uptoBulk d) := fun i hi => by
    have h1 := hel i hi
    have hlt : i < elems.length := by omega
    rw [List.getElem?_eq_getElem hlt] at h1
    rw [Option.bind_eq_some_iff] at h1
    obtain ⟨cs', c1, c2⟩ := h1
    have hd : (elems.map (·.1))[i]? = some elems[i].1 := by rw [List.getElem?_map, List.getElem?_eq_getElem hlt]; rfl
    obtain ⟨y, y1, y2⟩ := he _ _ _ c2 (weightsAll_get w2 (i := i) hd)
    exact ⟨y, cs', c1, y1, _, hd, y2⟩
  obtain ⟨l, l1, l2⟩ := exists_list len key
  have hQ : PartsQ Q l (Rows.uptoBulk (.slice (elems.map (·.1)) (rest.map (·.1)))) := by
    refine ⟨(elems.map (·.1)).map Rows.uptoBulk, by simp [l1, hlen], ?_, fun i y m hy hm => ?_⟩
    · rw [bulk_sum]; simp only [Rows.uptoBulk]; omega
    · obtain ⟨cs', _, _, d, hd, q⟩ := l2 i y hy
      rw [List.getElem?_map, hd] at hm
      cases hm
      exact q
  have hbytes : l.length * P.bytesOf e ≤ reachBytes := by
    refine Nat.le_trans (Nat.mul_le_mul_right _ ?_) w1
    omega
  refine ⟨l, .one ?_ rfl, hbytes, hQ⟩
  by_cases h0 : len = 0
  · have : l = [] := List.length_eq_zero_iff.1 (by omega)
    subst this; subst h0
    exact .lst0 _ _ _ _ (fun h => by cases h) hm (fun h => by cases h) trivial
  · obtain ⟨y0, cs0, k1, k2, k3⟩ := key 0 (by omega)
    obtain ⟨_, m1, m2⟩ := World.cells?_some k1
    have hz : cs0[0]? = some cs0[0] := List.getElem?_eq_getElem (by omega)
    have hcell := m2 0 hc
    rw [hz] at hcell
    have ha0 : (a.add (0 * P.cellsOf e)).add 0 = a := by simp [Addr.add]
    rw [ha0] at hcell
    obtain ⟨c, hH, hspot, _⟩ := heapKnow_cell hcell
    obtain ⟨ab, ao, asp⟩ := a
    simp only at hspot hH
    subst hspot
    have hsz : ∀ (i : Nat) (xs : List AV), (l.map f)[i]? = some xs → xs.length = P.cellsOf e ∧ ∀ (j : Nat) (x : AV), xs[j]? = some x → ∃ v, c[ao + i * P.cellsOf e + j]? = some v ∧ Rel (heapKnow W) noLay x v ∧ x.cell1 = true := fun i xs hi => by
      rw [List.getElem?_map, Option.map_eq_some_iff] at hi
      obtain ⟨y, y1, rfl⟩ := hi
      obtain ⟨cs', c1, c2, c3⟩ := l2 i y y1
      obtain ⟨_, n1, n2⟩ := World.cells?_some c1
      refine ⟨by rw [c2.1, n1], fun j x hj => ?_⟩
      have hjlt : j < cs'.length := by rw [← c2.1]; exact (List.getElem?_eq_some_iff.1 hj).1
      have h3 := n2 j (by omega)
      rw [List.getElem?_eq_getElem hjlt, add_mk, add_mk] at h3
      obtain ⟨c', e1, _, e3⟩ := heapKnow_cell h3
      simp only at e1 e3
      rw [hH] at e1; cases e1
      obtain ⟨g1, g2⟩ := c2.2 j x _ hj (List.getElem?_eq_getElem hjlt)
      exact ⟨_, e3, g1, g2⟩
    have := Rel.lst (H := heapKnow W) noLay false (l.map f) ab ao cap (P.cellsOf e) c (fun i j => (c[ao + i * P.cellsOf e + j]?).getD undef) (fun hh => by rw [List.map_eq_nil_iff] at hh; subst hh; simp at l1; omega) hH
      (fun i xs hi => (hsz i xs hi).1) (fun i xs j x hi hj => by obtain ⟨v, v1, _⟩ := (hsz i xs hi).2 j x hj; rw [v1]; rfl)
      (fun i xs j x hi hj => by obtain ⟨v, v1, v2, _⟩ := (hsz i xs hi).2 j x hj; rw [v1]; exact v2) (fun i xs j x hi hj => by obtain ⟨v, v1, v2, v3⟩ := (hsz i xs hi).2 j x hj; exact v3) (fun h => by cases h) (by simp [l1]; exact hl) hm
    rw [List.length_map, l1] at this
    exact this
variable {T : Nat → Option TyI}
theorem DecR.slice' {α : Type} {f : α → List AV} {Q : α → Nat → Prop} {i j : TyI} {u : Nat} (hT : TOk P T) (hi : T t = some i) (hk : i.k = .slice u) (hj : T u = some j) (hp : 0 < j.size) (he : DecR enc P W u f Q) :
    DecR enc P W t (fun l : List α => [.lst false (l.map f)]) (fun l n => l.length * j.bytes ≤ reachBytes ∧ PartsQ Q l n) := by
  obtain ⟨info, d, e1, e2, e3, e4, e5, e6⟩ := tyOf_spec (hT _ _ hi)
  have hd := tk_slice (P := P) (d := d) (e3 ▸ hk)
  subst hd
  have := DecR.slice (enc := enc) (W := W) e2 (by rw [cellsOf_of hT hj]; exact hp) he
  rwa [bytesOf_of hT hj] at this
theorem struct_partsR {i : TyI} {fs : List (Nat × Nat)} (hT : TOk P T) (hi : T t = some i) (hk : i.k = .struct fs) {fuel : Nat} {cs : List Value} {x : DataW H × List MemPlace} (h : DataW.trod enc P W 0 (fun _ => true) true fuel t cs = some x) (hw : (x.1.weights P t).all (· ≤ reachBytes) = true) :
    cs.length = i.size ∧ ∀ (i off u : Nat), fs[i]? = some (off, u) → ∀ {α : Type} {f : α → List AV} {Q : α → Nat → Prop}, DecR enc P W u f Q → ∃ a, Reads W ((cs.drop off).take (P.cellsOf u)) (f a) ∧ ∃ m, m + 1 ≤ Rows.uptoBulk x.1 ∧ Q a m := by
  obtain ⟨info, d, e1, e2, e3, e4, e5, e6⟩ := tyOf_spec (hT _ _ hi)
  obtain ⟨A, rfl, rfl, _⟩ := tk_struct (P := P) (d := d) (e3 ▸ hk)
  obtain ⟨xs, n, rfl, rfl, hl, hxl, hx⟩ := DataW.trod_struct e2 h
  refine ⟨by rw [hl, cellsOf_of hT hi], fun j off u hj α f Q hd => ?_⟩
  rw [List.getElem?_map, Option.map_eq_some_iff] at hj
  obtain ⟨F, hF, hF2⟩ := hj
  simp only [Prod.mk.injEq] at hF2
  obtain ⟨rfl, rfl⟩ := hF2
  have hFa : A[j]? = some F := by simpa using hF
  have hjlt : j < xs.length := by rw [hxl]; exact (Array.getElem?_eq_some_iff.1 hFa).1
  have h1 := hx j F hFa
  rw [List.getElem?_eq_getElem hjlt] at h1
  simp only [DataW.weights, e2] at hw
  have hd2 : (xs.map (·.1))[j]? = some xs[j].1 := by rw [List.getElem?_map, List.getElem?_eq_getElem hjlt]; rfl
  obtain ⟨a, a1, a2⟩ := hd _ _ _ h1 (weightsEach_get hw (i := j) (by rw [List.getElem?_map, hF]; rfl) hd2)
  refine ⟨a, a1, _, ?_, a2⟩
  have := bulk_part hd2
  simp only [Rows.uptoBulk]; omega
theorem arg_oneR {α : Type} {f : α → List AV} {Q : α → Nat → Prop} {v : Value} {d : DataW H} {ps : List MemPlace} (h : DataW.Trod enc P W 0 (fun _ => true) true t v d ps) (hw : (d.weights P t).all (· ≤ reachBytes) = true) (hd : DecR enc P W t f Q) : ∃ a, Reads W v.cells.toList (f a) ∧ Q a (Rows.uptoBulk d) := by
  obtain ⟨fuel, hf⟩ := h
  exact hd _ _ _ hf hw
theorem upto_get {ds gs : List (DataW H)} {i : Nat} {d : DataW H} (h : Rows.uptoSmall H (ds ++ gs) = true) (hd : ds[i]? = some d) : Rows.uptoBulk d ≤ 1048576 := by
  have h1 : Rows.uptoBulkAll (ds ++ gs) ≤ 1048576 := of_decide_eq_true h
  have h2 := bulk_part (l := ds ++ gs) (i := i) (d := d) (by rw [List.getElem?_append_left (List.getElem?_eq_some_iff.1 hd).1]; exact hd)
  omega
end
section
variable {H : Type} {enc : TypeId × Value → H} {W : World}
theorem decBlockR : DecR enc Tryz.prog W 80 Block.cells (fun x n => x.Ok ∧ x.count ≤ n) := fun fuel cs x h hw => by
  obtain ⟨a, a1, a2⟩ := decBlock fuel cs x h hw
  obtain ⟨hl, hp⟩ := struct_partsR tok rfl rfl h hw
  obtain ⟨x0, a0, m0, b0, c0, d0⟩ := hp 0 _ _ rfl (DecR.slice' tok rfl rfl rfl (Nat.zero_lt_succ _) (DecR.of decTac))
  obtain ⟨x1, a1', _, _, b1, _⟩ := hp 1 _ _ rfl (DecR.of (Dec.int' tok rfl rfl))
  obtain ⟨x2, a2', _, _, b2, _⟩ := hp 2 _ _ rfl (DecR.of (Dec.int' tok rfl rfl))
  obtain ⟨x3, a3, _, _, b3, _⟩ := hp 3 _ _ rfl (DecR.of (Dec.int' tok rfl rfl))
  obtain ⟨x4, a4, _, _, b4, _⟩ := hp 4 _ _ rfl (DecR.of (Dec.int' tok rfl rfl))
  have k0 := app1 tok rfl rfl (Reads.nil W cs) a0 (Nat.zero_le _)
  have k1 := app1 tok rfl rfl k0 a1' (by rw [hl]; decide)
  have k2 := app1 tok rfl rfl k1 a2' (by rw [hl]; decide)
  have k3 := app1 tok rfl rfl k2 a3 (by rw [hl]; decide)
  have k4 := app1 tok rfl rfl k3 a4 (by rw [hl]; decide)
  refine ⟨⟨x0, x1, x2, x3, x4⟩, k4.all hl, ⟨c0, fun t ht => ?_, wf_i64 b1, wf_i64 b2, wf_i64 b3, wf_i64 b4⟩, ?_⟩
  · obtain ⟨m, hm, _⟩ := d0.all t ht; exact hm.1
  · have := d0.len (fun a m h => h.2)
    simp only [Block.count]
    omega
theorem decBFuncR : DecR enc Tryz.prog W 41 BFunc.cells (fun f n => f.Ok ∧ f.count + 1 ≤ n) := fun fuel cs x h hw => by
  obtain ⟨hl, hp⟩ := struct_partsR tok rfl rfl h hw
  obtain ⟨x0, a0, _, _, b0, _⟩ := hp 0 _ _ rfl (DecR.of (Dec.int' tok rfl rfl))
  obtain ⟨x1, a1, m1, b1, c1, d1⟩ := hp 1 _ _ rfl (DecR.slice' tok rfl rfl rfl (Nat.zero_lt_succ _) decBlockR)
  have k0 := app1 tok rfl rfl (Reads.nil W cs) a0 (Nat.zero_le _)
  have k1 := app1 tok rfl rfl k0 a1 (by rw [hl]; decide)
  refine ⟨⟨x0, x1⟩, k1.all hl, ⟨wf_i64 b0, c1, fun y hy => ?_⟩, ?_⟩
  · obtain ⟨m, hm, _⟩ := d1.all y hy; exact hm.1
  · have := d1.sum Block.count (fun a m h => h.2)
    show (x1.map Block.count).sum + 1 ≤ _
    omega
theorem sum_add1 {α : Type} {p : α → Nat} : ∀ (l : List α), (l.map fun a => p a + 1).sum = (l.map p).sum + l.length
  | [] => rfl
  | a :: l => by simp only [List.map_cons, List.sum_cons, List.length_cons, sum_add1 l]; omega
theorem decBlocksR : DecR enc Tryz.prog W 24 Blocks.cells (fun b n => b.Ok ∧ b.count + b.funcs.length ≤ n) := fun fuel cs x h hw => by
  obtain ⟨hl, hp⟩ := struct_partsR tok rfl rfl h hw
  obtain ⟨x0, a0, _, _, b0, _⟩ := hp 0 _ _ rfl (DecR.of (Dec.int' tok rfl rfl))
  obtain ⟨x1, a1, m1, b1, c1, d1⟩ := hp 1 _ _ rfl (DecR.slice' tok rfl rfl rfl (Nat.zero_lt_succ _) decBFuncR)
  have k0 := app1 tok rfl rfl (Reads.nil W cs) a0 (Nat.zero_le _)
  have k1 := app1 tok rfl rfl k0 a1 (by rw [hl]; decide)
  refine ⟨⟨x0, x1⟩, k1.all hl, ⟨wf_i64 b0, c1, fun y hy => ?_⟩, ?_⟩
  · obtain ⟨m, hm, _⟩ := d1.all y hy; exact hm.1
  · have := d1.sum (fun f => f.count + 1) (fun a m h => h.2)
    rw [sum_add1] at this
    show (x1.map BFunc.count).sum + x1.length ≤ _
    omega
theorem lim_row {b : Blocks} {n : Nat} (h : b.Ok ∧ b.count + b.funcs.length ≤ n) (hn : n ≤ 1048576) : b.Lim := ⟨by omega, by omega⟩
end
end Go.Proofs.YtbbfelelocccmaaGreat

namespace Go.Proofs.YtbbfelelocccmaaGreat.Sv
open Go
variable {P : Program} {T : Nat → Option TyI} {ops : Array Oper} {rest : List Oper} {n : Nat} {e : AEnv} {h : AHeap} {o : Oper} {K : AState → Prop} {acc : List (List Nat × List Nat)} {R : List Nat} {W : List (Nat × AObj)} {r p : AV}
theorem aq (d : Nat) (hq : QLoc P o e h R r) (hr : AOps P ops rest ⟨n, eput e d r, h⟩ K) (hd : o.dst = some d := by exact rfl) (hb : Nat.blt d n = true := by exact rfl) (hg : guardIs ops o e = some true := by exact rfl) : AOps P ops (o :: rest) ⟨n, e, h⟩ K := AOps.s d hd hb hg hq hr
theorem ax (d : Nat) (hq : OLoc P o e h R W (some r)) (hr : AOps P ops rest ⟨n, eput e d r, (hputs h W)⟩ K) (hd : o.dst = some d := by exact rfl) (hb : Nat.blt d n = true := by exact rfl) (hg : guardIs ops o e = some true := by exact rfl) : AOps P ops (o :: rest) ⟨n, e, h⟩ K := AOps.x d hd hb hg hq hr
theorem ak (d : Nat) (hr : AOps P ops rest ⟨n, eput e d (.tup []), h⟩ K) (hd : o.dst = some d := by exact rfl) (hb : Nat.blt d n = true := by exact rfl) (hg : guardIs ops o e = some false := by exact rfl) : AOps P ops (o :: rest) ⟨n, e, h⟩ K := AOps.k d hd hb hg hr
theorem am (d : Nat) {x : Operand} (hr : AOps P ops rest ⟨n, eput e d r, h⟩ K) (hd : o.dst = some d := by exact rfl) (hb : Nat.blt d n = true := by exact rfl) (hg : guardIs ops o e = some true := by exact rfl) (ho : o.op = .move x := by exact rfl) (hx : look e x = some r := by exact rfl) : AOps P ops (o :: rest) ⟨n, e, h⟩ K := AOps.s d hd hb hg (q_move (.inl ho) hx) hr
theorem aa (d : Nat) {x : Operand} (hr : AOps P ops rest ⟨n, eput e d r, h⟩ K) (hd : o.dst = some d := by exact rfl) (hb : Nat.blt d n = true := by exact rfl) (hg : guardIs ops o e = some true := by exact rfl) (ho : o.op = .assign x := by exact rfl) (hx : look e x = some r := by exact rfl) : AOps P ops (o :: rest) ⟨n, e, h⟩ K := AOps.s d hd hb hg (q_move (.inr ho) hx) hr
theorem al (d : Nat) {t : TypeId} {x : Operand} {i : TyI} {cs : List AV} (hT : TOk P T) (hr : AOps P ops rest ⟨n, eput e d r, h⟩ K) (hd : o.dst = some d := by exact rfl) (hb : Nat.blt d n = true := by exact rfl) (hg : guardIs ops o e = some true := by exact rfl) (ho : o.op = .load t x := by exact rfl) (hx : look e x = some p := by exact rfl) (hi : T t = some i := by exact rfl) (hp : PtsTo h p R cs := by first | exact .loc _ | exact .ptr _ _ _ _ _ _ _ _ rfl rfl rfl) (hl : loadAV i cs = some r := by exact rfl) : AOps P ops (o :: rest) ⟨n, e, h⟩ K := AOps.s d hd hb hg (q_load hT ho hx hi hp hl) hr
theorem dq (d : Nat) (hq : QLoc P o e h R r) (hr : DOps P ops n rest (eput e d r) h (acc ++ [(R, [])]) K) (hd : o.dst = some d := by exact rfl) (hb : Nat.blt d n = true := by exact rfl) (hg : guardIs ops o e = some true := by exact rfl) : DOps P ops n (o :: rest) e h acc K := DOps.s d hd hb hg hq hr
theorem dx (d : Nat) (hq : OLoc P o e h R W (some r)) (hr : DOps P ops n rest (eput e d r) (hputs h W) (acc ++ [(R, W.map (·.1))]) K) (hd : o.dst = some d := by exact rfl) (hb : Nat.blt d n = true := by exact rfl) (hg : guardIs ops o e = some true := by exact rfl) : DOps P ops n (o :: rest) e h acc K := DOps.x d hd hb hg hq hr
theorem dm (d : Nat) {x : Operand} (hr : DOps P ops n rest (eput e d r) h (acc ++ [([], [])]) K) (hd : o.dst = some d := by exact rfl) (hb : Nat.blt d n = true := by exact rfl) (hg : guardIs ops o e = some true := by exact rfl) (ho : o.op = .move x := by exact rfl) (hx : look e x = some r := by exact rfl) : DOps P ops n (o :: rest) e h acc K := DOps.s d hd hb hg (q_move (.inl ho) hx) hr
theorem da (d : Nat) {x : Operand} (hr : DOps P ops n rest (eput e d r) h (acc ++ [([], [])]) K) (hd : o.dst = some d := by exact rfl) (hb : Nat.blt d n = true := by exact rfl) (hg : guardIs ops o e = some true := by exact rfl) (ho : o.op = .assign x := by exact rfl) (hx : look e x = some r := by exact rfl) : DOps P ops n (o :: rest) e h acc K := DOps.s d hd hb hg (q_move (.inr ho) hx) hr
theorem dl (d : Nat) {t : TypeId} {x : Operand} {i : TyI} {cs : List AV} (hT : TOk P T) (hr : DOps P ops n rest (eput e d r) h (acc ++ [(R, [])]) K) (hd : o.dst = some d := by exact rfl) (hb : Nat.blt d n = true := by exact rfl) (hg : guardIs ops o e = some true := by exact rfl) (ho : o.op = .load t x := by exact rfl) (hx : look e x = some p := by exact rfl) (hi : T t = some i := by exact rfl) (hp : PtsTo h p R cs := by first | exact .loc _ | exact .ptr _ _ _ _ _ _ _ _ rfl rfl rfl) (hl : loadAV i cs = some r := by exact rfl) : DOps P ops n (o :: rest) e h acc K := DOps.s d hd hb hg (q_load hT ho hx hi hp hl) hr
theorem df (d : Nat) {t : TypeId} {x : Operand} {f off u : Nat} {i : TyI} {fs : List (Nat × Nat)} (hT : TOk P T) (hr : DOps P ops n rest (eput e d r) h (acc ++ [([], [])]) K) (hd : o.dst = some d := by exact rfl) (hb : Nat.blt d n = true := by exact rfl) (hg : guardIs ops o e = some true := by exact rfl) (ho : o.op = .fieldAddr t x f := by exact rfl) (hx : look e x = some p := by exact rfl) (hi : T t = some i := by exact rfl) (hk : i.k = .struct fs := by exact rfl) (hf : fs[f]? = some (off, u) := by exact rfl) (hm : moveAV p off = some r := by exact rfl) : DOps P ops n (o :: rest) e h acc K := DOps.s d hd hb hg (q_fieldAddr hT ho hx hi hk hf hm) hr
theorem an {s : AState} (h : K s) : AOps P ops [] s K := AOps.nil h
theorem asr {id : Nat} {os : Array Oper} {c : Code} {s : AState} {Q : Exit → AState → Prop} (h : AOps P os os.toList s (fun s' => AGo P c s' Q)) : AGo P (.seq (.region id os false) c) s Q := AGo.seq (AGo.region h)
theorem act {t : Nat} {x y : Code} {s : AState} {Q : Exit → AState → Prop} (h : AGo P x s Q) (he : s.env t = some (.bool true) := by exact rfl) : AGo P (.cond (.tmp t) x y) s Q := AGo.cond_true true he rfl h
theorem acf {t : Nat} {x y : Code} {s : AState} {Q : Exit → AState → Prop} (h : AGo P y s Q) (he : s.env t = some (.bool false) := by exact rfl) : AGo P (.cond (.tmp t) x y) s Q := AGo.cond_false false he rfl h
theorem apf {d : Nat} {c x y : Operand} (hr : AOps P ops rest ⟨n, eput e d p, h⟩ K) (hd : o.dst = some d := by exact rfl) (hb : Nat.blt d n = true := by exact rfl) (hg : guardIs ops o e = some true := by exact rfl) (ho : o.op = .pick c x y := by exact rfl) (hc : look e c = some (.bool false) := by exact rfl) (hx : look e y = some p := by exact rfl) : AOps P ops (o :: rest) ⟨n, e, h⟩ K := AOps.s d hd hb hg (q_pick_false false ho hc rfl hx) hr
theorem apt {d : Nat} {c x y : Operand} (hr : AOps P ops rest ⟨n, eput e d p, h⟩ K) (hd : o.dst = some d := by exact rfl) (hb : Nat.blt d n = true := by exact rfl) (hg : guardIs ops o e = some true := by exact rfl) (ho : o.op = .pick c x y := by exact rfl) (hc : look e c = some (.bool true) := by exact rfl) (hx : look e x = some p := by exact rfl) : AOps P ops (o :: rest) ⟨n, e, h⟩ K := AOps.s d hd hb hg (q_pick_true true ho hc rfl hx) hr
theorem aqb {d : Nat} {op : BinOp} {t t' : TypeId} {x y : Operand} {q : AV} (hr : AOps P ops rest ⟨n, eput e d r, h⟩ K) (hd : o.dst = some d := by exact rfl) (hb : Nat.blt d n = true := by exact rfl) (hg : guardIs ops o e = some true := by exact rfl) (ho : o.op = .binOp op t x y t' := by exact rfl) (hx : look e x = some p := by exact rfl) (hy : look e y = some q := by exact rfl) (hv : evalBin op p q = some r := by exact rfl) : AOps P ops (o :: rest) ⟨n, e, h⟩ K := AOps.s d hd hb hg (q_bin ho hx hy hv) hr
theorem asp {c : Code} {Q : Exit → AState → Prop} (d : Nat) {b : Bool} (h1 : b = true → AGo P c ⟨n, eput e d (.bool true), h⟩ Q) (h2 : b = false → AGo P c ⟨n, eput e d (.bool false), h⟩ Q) (he : e d = some (.bool b) := by exact rfl) : AGo P c ⟨n, e, h⟩ Q := AGo.split d he h1 h2
theorem aop (d : Nat) {b : Bool} {l : List Oper} (h1 : b = true → AOps P ops l ⟨n, eput e d (.bool true), h⟩ K) (h2 : b = false → AOps P ops l ⟨n, eput e d (.bool false), h⟩ K) (he : e d = some (.bool b) := by exact rfl) : AOps P ops l ⟨n, e, h⟩ K := AOps.split d he h1 h2
theorem obx {t : TypeId} {x : Operand} (sz b : Nat) (ho : o.op = .box t x := by exact rfl) (hx : look e x = some p := by exact rfl) (hb : h b = some .free := by exact rfl) (hsz : p.cells.length = sz := by exact rfl) (hp : 0 < sz := by exact Nat.zero_lt_succ _) (h1 : p.cells.all AV.cell1 = true := by exact rfl) : OLoc P o e h [b] [(b, .row false sz [p.cells])] (some (.ptr b 1 0 0)) := o_box b ho hx hb hsz hp h1
theorem oal (hT : TOk P T) {t : TypeId} {i : TyI} (b : Nat) (ho : o.op = .alloc t := by exact rfl) (hi : T t = some i := by exact rfl) (hb : h b = some .free := by exact rfl) (hz : i.zero.length = i.size := by exact rfl) (hp : 0 < i.size := by exact Nat.zero_lt_succ _) (h1 : i.zero.all AV.cell1 = true := by exact rfl) : OLoc P o e h [b] [(b, .row false i.size [i.zero])] (some (.ptr b 1 0 0)) := o_alloc hT b ho hi hb hz hp h1
theorem qil (hT : TOk P T) {t : TypeId} {x y : Operand} {ex : Bool} {es : List (List AV)} {k : IntKind} {m : Nat} {i j : TyI} {u : Nat} {cs : List AV} (hn : es[((m : Nat) : Int).toNat]? = some cs) (ho : o.op = .indexAddr t x y := by exact rfl) (hx : look e x = some (.lst ex es) := by exact rfl) (hy : look e y = some (.int k (m : Int)) := by exact rfl) (hi : T t = some i := by exact rfl) (hk : i.k = .slice u := by exact rfl) (hj : T u = some j := by exact rfl) (hsz : cs.length = j.size := by exact rfl) : QLoc P o e h [] (.loc cs) := q_index_lst hT ho hx hy hi hk hj (Int.natCast_nonneg _) hn hsz
theorem opu {f : FuncId} {fn : Func} {args : Array Operand} {tys : Array TypeId} {xs : List AV} (hf : P.funcs[f]? = some fn) (hc : APure P f xs (fun r' => r' = r)) (ho : o.op = .call { callee := .value (.func f), args := args, argTypes := tys } := by exact rfl) (hn : (fn.name == "runtime.NumGoroutine") = false := by kernel_rfl) (hb : fn.body.isSome = true := by exact rfl) (hx : lookAll e args.toList = some xs := by exact rfl) (hp : xs.all AV.isPure = true := by exact rfl) : OLoc P o e h [] [] (some r) := o_pure ho hf hn hb hx hp hc
theorem oct {f : FuncId} {fn : Func} {args : Array Operand} {tys : Array TypeId} {xs : List AV} {hc hw : AHeap} (hcall : ACall P f xs hc (fun r' h' => r' = r ∧ HSub hw h')) (L : List Nat) (W : List (Nat × AObj)) (ho : o.op = .call { callee := .value (.func f), args := args, argTypes := tys }) (hf : P.funcs[f]? = some fn) (hn : (fn.name == "runtime.NumGoroutine") = false) (hb : fn.body.isSome = true)
    (hx : lookAll e args.toList = some xs) (hxa : xs.all (AV.avoid (mem L)) = true) (hL : AllL L fun b => ∃ q, h b = some q ∧ q.avoid (mem L) = true) (hW : W.all (fun p => mem L p.1) = true) (hres' : hres h L = hc)
    (hk : AllL L fun b => ∃ q, hw b = some q ∧ hputs h W b = some q ∧ q.avoid (mem L) = true) (hra : r.avoid (mem L) = true) : OLoc P o e h L W (some r) := o_call L W ho hf hn hb hx hxa hL hW hres' hk hra hcall
section
variable {c x y : Code} {s : AState} {Q : Exit → AState → Prop}
theorem asq (h : AGo P x s (Then (fun s' => AGo P y s' Q) Q)) : AGo P (.seq x y) s Q := AGo.seq h
theorem agr {id : Nat} (h : AOps P ops ops.toList s (fun s' => Q .normal s')) : AGo P (.region id ops false) s Q := AGo.region h
theorem agk (h : Q .normal s) : AGo P .skip s Q := AGo.skip h
theorem agt (h : Q .ret s) : AGo P .ret s Q := AGo.ret h
theorem bc {a b : Bool} (h : a = b) : AV.bool a = AV.bool b := congrArg AV.bool h
end
end Go.Proofs.YtbbfelelocccmaaGreat.Sv

namespace Go.Proofs.YtbbfelelocccmaaGreat.Sv
open Go
section
variable {P : Program} {T : Nat → Option TyI} {o : Oper} {e : AEnv} {h : AHeap}
end
section
variable {P : Program} {T : Nat → Option TyI} {o : Oper} {e : AEnv} {h : AHeap}
end
def nth : List AObj → Nat → AObj
  | [], _ => .free
  | o :: _, 0 => o
  | _ :: L, n + 1 => nth L n
def LowAt (h : AHeap) (k : Nat → Bool) : Nat → List AObj → Prop
  | _, [] => True
  | i, o :: L => (h i = some o ∧ o.avoid k = true) ∧ LowAt h k (i + 1) L
theorem LowAt.get {h : AHeap} {k : Nat → Bool} : ∀ {L : List AObj} {i c : Nat}, LowAt h k i L → c < L.length → h (i + c) = some (nth L c) ∧ (nth L c).avoid k = true
  | [], _, _, _, hc => absurd hc (by simp)
  | o :: L, i, 0, hl, _ => hl.1
  | o :: L, i, c + 1, hl, hc => by
    have := LowAt.get (L := L) (i := i + 1) (c := c) hl.2 (by simpa using hc)
    rw [show i + (c + 1) = i + 1 + c by omega]
    exact this
theorem AllL.of {p : Nat → Prop} : ∀ {L : List Nat}, (∀ b ∈ L, p b) → AllL L p
  | [], _ => trivial
  | b :: L, h => ⟨h b (by simp), AllL.of fun c hc => h c (by simp [hc])⟩
section
variable {P : Program} {T : Nat → Option TyI} {o : Oper} {e : AEnv} {h : AHeap}
theorem q_field (hT : TOk P T) {t : TypeId} {x : Operand} {f : Nat} {cs : List AV} {r : AV} {i j : TyI} {fs : List (Nat × Nat)} {off u : Nat} (ho : o.op = .field t x f) (hx : look e x = some (.agg cs)) (hi : T t = some i) (hk : i.k = .struct fs)
    (hf : fs[f]? = some (off, u)) (hj : T u = some j) (hc : j.k.isCell = true) (hr : cs[off]? = some r) : QLoc P o e h [] r := by
  intro H ι a w s hs h1 h2
  have hx' : look s.env x = some (.agg cs) := by rw [h1 x (by rw [ho]; simp [Op.operands]), hx]
  obtain ⟨info, d, e1, e2, e3, e4, e5, e6⟩ := tyOf_spec (hT _ _ hi)
  obtain ⟨info', d', f1, f2, f3, f4, f5, f6⟩ := tyOf_spec (hT _ _ hj)
  obtain ⟨A, rfl, rfl, hz⟩ := tk_struct (P := P) (d := d) (e3 ▸ hk)
  rw [List.getElem?_map, Array.getElem?_toList] at hf
  cases ef : A[f]? with
  | none => rw [ef] at hf; cases hf
  | some g =>
    rw [ef] at hf
    simp only [Option.map_some, Option.some.injEq, Prod.mk.injEq] at hf
    obtain ⟨rfl, rfl⟩ := hf
    obtain ⟨us, hv, hl, hrel⟩ := (look_rel hs hx').agg_inv
    have hlt : g.offset < us.size := by rw [← hl]; exact (List.getElem?_eq_some_iff.1 hr).1
    have hagg : isAggD d' = false := by
      have := tk_cell (P := P) (d := d') (by rw [← f3]; exact hc)
      cases d' <;> first | rfl | exact absurd rfl (this.1 _) | exact absurd rfl (this.2 _ _)
    refine ⟨us[g.offset], hrel g.offset r _ hr (Array.getElem?_eq_getElem hlt), ?_⟩
    simp only [execOp, ho, Instr.field, hv, Sem.run_bind, Sem.run_pure, Result.andThen_ok, run_underlying' e2, ef, asAgg, part, run_isAgg f2, hagg, Bool.false_eq_true, if_false, Array.getElem?_eq_getElem hlt]
end
def ptsOf (h : AHeap) : AV → Option (List Nat × List AV)
  | .loc cs => some ([], cs)
  | .ptr b n i o => match h b with
    | some (.row p sz es) => match Nat.beq n es.length, es[i]? with
      | true, some cs => some ([b], cs.drop o)
      | _, _ => none
    | _ => none
  | _ => none
theorem ptsOf_spec {h : AHeap} {p : AV} {R : List Nat} {cs : List AV} (e : ptsOf h p = some (R, cs)) : PtsTo h p R cs := by
  unfold ptsOf at e
  split at e
  · simp only [Option.some.injEq, Prod.mk.injEq] at e
    obtain ⟨rfl, rfl⟩ := e
    exact .loc _
  · split at e
    · rename_i b n i o p sz es hb
      split at e
      · rename_i cs h1 h2
        simp only [Option.some.injEq, Prod.mk.injEq] at e
        obtain ⟨rfl, rfl⟩ := e
        exact .ptr _ _ _ _ _ _ _ _ hb (Nat.eq_of_beq_eq_true h1) h2
      · cases e
    · cases e
  · cases e
def qEv (T : Nat → Option TyI) (o : Op) (e : AEnv) (h : AHeap) : Option (List Nat × AV) :=
  match o with
  | .move x => match look e x with
    | some p => some ([], p)
    | none => none
  | .assign x => match look e x with
    | some p => some ([], p)
    | none => none
  | .load t x => match look e x, T t with
    | some p, some i => match ptsOf h p with
      | some (R, cs) => match loadAV i cs with
        | some r => some (R, r)
        | none => none
      | none => none
    | _, _ => none
  | .fieldAddr t x f => match look e x, T t with
    | some p, some i => match i.k with
      | .struct fs => match fs[f]? with
        | some (off, u) => match moveAV p off with
          | some r => some ([], r)
          | none => none
        | none => none
      | _ => none
    | _, _ => none
  | .binOp op t x y t' => match look e x, look e y with
    | some p, some q => match evalBin op p q with
      | some r => some ([], r)
      | none => none
    | _, _ => none
  | .unOp .not t x => match look e x with
    | some (.bool b) => some ([], .bool (!b))
    | _ => none
  | .pick c x y => match look e c with
    | some (.bool true) => match look e x with
      | some p => some ([], p)
      | none => none
    | some (.bool false) => match look e y with
      | some p => some ([], p)
      | none => none
    | _ => none
  | .extract x k => match look e x with
    | some (.tup vs) => match vs[k]? with
      | some r => some ([], r)
      | none => none
    | _ => none
  | .nilCheck x => match look e x with
    | some p => match (match p with | .loc _ | .ptr .. => true | _ => false) with
      | true => some ([], p)
      | false => none
    | none => none
  | .field t x f => match look e x, T t with
    | some (.agg cs), some i => match i.k with
      | .struct fs => match fs[f]? with
        | some (off, u) => match T u with
          | some j => match j.k.isCell, cs[off]? with
            | true, some r => some ([], r)
            | _, _ => none
          | none => none
        | none => none
      | _ => none
    | _, _ => none
  | .convert t u x => match look e x, T t, T u with
    | some (.int k' n), some i, some j => match j.k with
      | .int k => some ([], .int k (k.wrap n))
      | _ => none
    | _, _, _ => none
  | .call ⟨.builtin .len, args, tys⟩ => match args.toList, tys.toList with
    | [x], [t] => match look e x, T t with
      | some p, some i => match (match p with | .str _ => (match i.k with | .string => true | _ => false) | _ => (match i.k with | .slice _ => true | _ => false)), lenAV p with
        | true, some n => some ([], .int .i64 n)
        | _, _ => none
      | _, _ => none
    | _, _ => none
  | _ => none
theorem arr_one {α : Type} {a : Array α} {x : α} (h : a.toList = [x]) : a = #[x] := Array.ext' h
section
variable {P : Program} {T : Nat → Option TyI} {o : Oper} {e : AEnv} {h : AHeap} {R : List Nat} {r : AV}
theorem qEv_spec (hT : TOk P T) (hq : qEv T o.op e h = some (R, r)) : QLoc P o e h R r := by
  unfold qEv at hq
  split at hq
  · rename_i x ho
    split at hq
    · rename_i p hp
      simp only [Option.some.injEq, Prod.mk.injEq] at hq
      obtain ⟨rfl, rfl⟩ := hq
      exact q_move (.inl ho) hp
    · cases hq
  · rename_i x ho
    split at hq
    · rename_i p hp
      simp only [Option.some.injEq, Prod.mk.injEq] at hq
      obtain ⟨rfl, rfl⟩ := hq
      exact q_move (.inr ho) hp
    · cases hq
  · rename_i t x ho
    split at hq
    · rename_i p i hp hi
      split at hq
      · rename_i R' cs hc
        split at hq
        · rename_i r' hr
          simp only [Option.some.injEq, Prod.mk.injEq] at hq
          obtain ⟨rfl, rfl⟩ := hq
          exact q_load hT ho hp hi (ptsOf_spec hc) hr
        · cases hq
      · cases hq
    · cases hq
  · rename_i t x f ho
    split at hq
    · rename_i p i hp hi
      split at hq
      · rename_i fs hk
        split at hq
        · rename_i off u hf
          split at hq
          · rename_i r' hr
            simp only [Option.some.injEq, Prod.mk.injEq] at hq
            obtain ⟨rfl, rfl⟩ := hq
            exact q_fieldAddr hT ho hp hi hk hf hr
          · cases hq
        · cases hq
      · cases hq
    · cases hq
  · rename_i op t x y t' ho
    split at hq
    · rename_i p q hp hq'
      split at hq
      · rename_i r' hr
        simp only [Option.some.injEq, Prod.mk.injEq] at hq
        obtain ⟨rfl, rfl⟩ := hq
        exact q_bin ho hp hq' hr
      · cases hq
    · cases hq
  · rename_i t x ho
    split at hq
    · rename_i b hp
      simp only [Option.some.injEq, Prod.mk.injEq] at hq
      obtain ⟨rfl, rfl⟩ := hq
      exact q_not ho hp
    · cases hq
  · rename_i c x y ho
    split at hq
    · rename_i hc
      split at hq
      · rename_i p hp
        simp only [Option.some.injEq, Prod.mk.injEq] at hq
        obtain ⟨rfl, rfl⟩ := hq
        exact q_pick_true true ho hc rfl hp
      · cases hq
    · rename_i hc
      split at hq
      · rename_i p hp
        simp only [Option.some.injEq, Prod.mk.injEq] at hq
        obtain ⟨rfl, rfl⟩ := hq
        exact q_pick_false false ho hc rfl hp
      · cases hq
    · cases hq
  · rename_i x k ho
    split at hq
    · rename_i vs hp
      split at hq
      · rename_i r' hr
        simp only [Option.some.injEq, Prod.mk.injEq] at hq
        obtain ⟨rfl, rfl⟩ := hq
        exact q_extract ho hp hr
      · cases hq
    · cases hq
  · rename_i x ho
    split at hq
    · rename_i p hp
      split at hq
      · rename_i hc
        simp only [Option.some.injEq, Prod.mk.injEq] at hq
        obtain ⟨rfl, rfl⟩ := hq
        exact q_nilCheck ho hp (by cases p <;> first | rfl | cases hc)
      · cases hq
    · cases hq
  · rename_i t x f ho
    split at hq
    · rename_i cs i hp hi
      split at hq
      · rename_i fs hk
        split at hq
        · rename_i off u hf
          split at hq
          · rename_i j hj
            split at hq
            · rename_i r' hc hr
              simp only [Option.some.injEq, Prod.mk.injEq] at hq
              obtain ⟨rfl, rfl⟩ := hq
              exact q_field hT ho hp hi hk hf hj hc hr
            · cases hq
          · cases hq
        · cases hq
      · cases hq
    · cases hq
  · rename_i t u x ho
    split at hq
    · rename_i k' n i j hp hi hj
      split at hq
      · rename_i k hk
        simp only [Option.some.injEq, Prod.mk.injEq] at hq
        obtain ⟨rfl, rfl⟩ := hq
        exact q_convInt hT ho hp hi hj hk
      · cases hq
    · cases hq
  · rename_i args tys ho
    split at hq
    · rename_i x t ha ht
      split at hq
      · rename_i p i hp hi
        split at hq
        · rename_i n hk hn
          simp only [Option.some.injEq, Prod.mk.injEq] at hq
          obtain ⟨rfl, rfl⟩ := hq
          exact q_len hT (ho.trans (by rw [arr_one ha, arr_one ht])) hp hi (by cases p <;> exact hk) hn
        · cases hq
      · cases hq
    · cases hq
  · cases hq
end
def qRun (T : Nat → Option TyI) (ops : Array Oper) (n : Nat) : Nat → List Oper → AEnv → AHeap → Option (List Oper × AEnv)
  | 0, l, e, _ => some (l, e)
  | k + 1, o :: l, e, h => match o.dst with
    | some d => match Nat.blt d n, guardIs ops o e with
      | true, some true => match qEv T o.op e h with
        | some (_, r) => qRun T ops n k l (eput e d r) h
        | none => none
      | true, some false => qRun T ops n k l (eput e d (.tup [])) h
      | _, _ => none
    | none => none
  | _ + 1, [], _, _ => none
section
variable {P : Program} {T : Nat → Option TyI} {ops : Array Oper} {n : Nat} {h : AHeap} {K : AState → Prop}
theorem aQ (hT : TOk P T) : ∀ (k : Nat) {l l' : List Oper} {e e' : AEnv}, qRun T ops n k l e h = some (l', e') → AOps P ops l' ⟨n, e', h⟩ K → AOps P ops l ⟨n, e, h⟩ K
  | 0, l, l', e, e', hq, hr => by
    simp only [qRun, Option.some.injEq, Prod.mk.injEq] at hq
    obtain ⟨rfl, rfl⟩ := hq
    exact hr
  | k + 1, [], _, _, _, hq, _ => by cases hq
  | k + 1, o :: l, l', e, e', hq, hr => by
    unfold qRun at hq
    split at hq
    · rename_i d hd
      split at hq
      · rename_i hb hg
        split at hq
        · rename_i R r hv
          exact AOps.s d hd hb hg (qEv_spec hT hv) (aQ hT k hq hr)
        · cases hq
      · rename_i hb hg
        exact AOps.k d hd hb hg (aQ hT k hq hr)
      · cases hq
    · cases hq
end
def qRunD (T : Nat → Option TyI) (ops : Array Oper) (n : Nat) : Nat → List Oper → AEnv → AHeap → List (List Nat × List Nat) → Option (List Oper × AEnv × List (List Nat × List Nat))
  | 0, l, e, _, acc => some (l, e, acc)
  | k + 1, o :: l, e, h, acc => match o.dst with
    | some d => match Nat.blt d n, guardIs ops o e with
      | true, some true => match qEv T o.op e h with
        | some (R, r) => qRunD T ops n k l (eput e d r) h (acc ++ [(R, [])])
        | none => none
      | true, some false => qRunD T ops n k l (eput e d (.tup [])) h (acc ++ [([], [])])
      | _, _ => none
    | none => none
  | _ + 1, [], _, _, _ => none
section
variable {P : Program} {T : Nat → Option TyI} {ops : Array Oper} {n : Nat} {h : AHeap} {K : AState → Prop}
theorem dQ (hT : TOk P T) : ∀ (k : Nat) {l l' : List Oper} {e e' : AEnv} {acc acc' : List (List Nat × List Nat)}, qRunD T ops n k l e h acc = some (l', e', acc') → DOps P ops n l' e' h acc' K → DOps P ops n l e h acc K
  | 0, l, l', e, e', acc, acc', hq, hr => by
    simp only [qRunD, Option.some.injEq, Prod.mk.injEq] at hq
    obtain ⟨rfl, rfl, rfl⟩ := hq
    exact hr
  | k + 1, [], _, _, _, _, _, hq, _ => by cases hq
  | k + 1, o :: l, l', e, e', acc, acc', hq, hr => by
    unfold qRunD at hq
    split at hq
    · rename_i d hd
      split at hq
      · rename_i hb hg
        split at hq
        · rename_i R r hv
          exact DOps.s d hd hb hg (qEv_spec hT hv) (dQ hT k hq hr)
        · cases hq
      · rename_i hb hg
        exact DOps.u d hd hb hg (dQ hT k hq hr)
      · cases hq
    · cases hq
end
def AV.sure : AV → Option Value
  | .bool b => some (.bool b)
  | .int k n => some (.int k n)
  | .str s => some (.string s)
  | .fn f [] [] => some (.func f #[] #[])
  | .val v => some v
  | _ => none
def sureL : List AV → Option (List Value)
  | [] => some []
  | x :: xs => match x.sure, sureL xs with
    | some v, some vs => some (v :: vs)
    | _, _ => none
def AV.whole : AV → Option Value
  | .agg cs => (sureL cs).map fun l => .agg l.toArray
  | x => x.sure
theorem sure_rel {H : Know} {ι : Lay} {x : AV} {v u : Value} (h : Rel H ι x v) (e : x.sure = some u) : v = u := by
  cases h with
  | bool => simpa [AV.sure] using e
  | int => simpa [AV.sure] using e
  | str => simpa [AV.sure] using e
  | val => simpa [AV.sure] using e
  | fn _ f xs cs us vs hx hl h1 h2 =>
    cases xs with
    | cons => simp [AV.sure] at e
    | nil =>
      cases cs with
      | cons => simp [AV.sure] at e
      | nil =>
        have e1 : us = #[] := Array.eq_empty_of_size_eq_zero (by simpa using hx.symm)
        have e2 : vs = #[] := Array.eq_empty_of_size_eq_zero (by simpa using hl.symm)
        subst e1; subst e2
        simpa [AV.sure] using e
  | _ => simp [AV.sure] at e
theorem sureL_get : ∀ {xs : List AV} {l : List Value}, sureL xs = some l → xs.length = l.length ∧ ∀ (j : Nat) (x : AV), xs[j]? = some x → ∃ u, l[j]? = some u ∧ x.sure = some u
  | [], l, h => by simp [sureL] at h; subst h; exact ⟨rfl, fun j x h => by simp at h⟩
  | x :: xs, l, h => by
    unfold sureL at h
    split at h
    · rename_i v vs h1 h2
      simp at h; subst h
      obtain ⟨a1, a2⟩ := sureL_get h2
      refine ⟨by simp [a1], fun j y hj => ?_⟩
      cases j with
      | zero => simp at hj; subst hj; exact ⟨v, rfl, h1⟩
      | succ j => obtain ⟨u, u1, u2⟩ := a2 j y (by simpa using hj); exact ⟨u, by simpa using u1, u2⟩
    · cases h
theorem whole_rel {H : Know} {ι : Lay} {x : AV} {v u : Value} (h : Rel H ι x v) (e : x.whole = some u) : v = u := by
  cases x with
  | agg cs =>
    obtain ⟨us, rfl, hl, hr⟩ := h.agg_inv
    simp only [AV.whole, Option.map_eq_some_iff] at e
    obtain ⟨l, h1, rfl⟩ := e
    obtain ⟨a1, a2⟩ := sureL_get h1
    congr 1
    apply Array.ext (by simp; omega)
    intro i h1 h2
    obtain ⟨x, hx⟩ : ∃ x, cs[i]? = some x := ⟨cs[i]'(by omega), by simp [hl, h1]⟩
    obtain ⟨w, w1, w2⟩ := a2 i x hx
    have := sure_rel (hr i x us[i] hx (by simp [h1])) w2
    rw [this]
    rw [List.getElem?_eq_some_iff] at w1
    obtain ⟨_, w1⟩ := w1
    simp [w1]
  | _ => exact sure_rel h e
section
variable {P : Program} {T : Nat → Option TyI} {o : Oper} {e : AEnv} {h : AHeap}
theorem tk_iface {d : TypeDesc} (h : tkOf P d ≠ .other) : ∀ m, d ≠ .interface m := fun m e => by subst e; exact h rfl
theorem q_iface (hT : TOk P T) {t : TypeId} {x : Operand} {y : AV} {u : Value} {i : TyI} (ho : o.op = .makeInterface t x) (hx : look e x = some y) (hy : y.whole = some u) (ht : T t = some i) (hk : i.k ≠ .other) : QLoc P o e h [] (.val (.iface t u)) := by
  intro H ι a w s hs g1 g2
  have hx' : look s.env x = some y := by rw [g1 x (by rw [ho]; simp [Op.operands]), hx]
  have hv := whole_rel (look_rel hs hx') hy
  obtain ⟨info, d, e1, e2, e3, e4, e5, e6⟩ := tyOf_spec (hT _ _ ht)
  have hd := tk_iface (P := P) (d := d) (e3 ▸ hk)
  refine ⟨.iface t u, .val _ _ rfl, ?_⟩
  simp only [execOp, ho, hv, Instr.makeInterface, Sem.run_bind, run_underlying' e2, Result.andThen_ok]
  cases d with
  | interface m => exact absurd rfl (hd m)
  | _ => rfl
theorem o_invoke {f : FuncId} {fn : Func} {recv : Operand} {name : String} {args : Array Operand} {tys : Array TypeId} {t : TypeId} {v : Value} {x0 : AV} {xs : List AV} {r : AV} (ho : o.op = .call { callee := .invoke recv name, args := args, argTypes := tys })
    (hr : look e recv = some (.val (.iface t v))) (hm : ∀ w, (method (P.types.size + Made.depth) t v name).run P w = .ok (f, v) w) (hv : ∀ H, Rel H noLay x0 v)
    (hf : P.funcs[f]? = some fn) (hn : (fn.name == "runtime.NumGoroutine") = false) (hb : fn.body.isSome = true)
    (hx : lookAll e args.toList = some xs) (hp : xs.all AV.isPure = true) (hc : APure P f (x0 :: xs) (fun r' => r' = r)) : OLoc P o e h [] [] (some r) := by
  intro H ι a w s Q hs g1 g2
  have hx' : lookAll s.env args.toList = some xs := by
    rw [lookAll_agree (e := e) (fun x hx => g1 x z27q)]; exact hx
  have hr' : look s.env recv = some (.val (.iface t v)) := by rw [g1 recv z40q, hr]
  have hre := ((look_rel hs hr').val_inv).1
  have hra := relAll_map hs hx'
  have hra' : RelAll H noLay (x0 :: xs) (#[v] ++ args.map a.eval) := by
    have h1 : RelAll H noLay [x0] #[v] := ⟨rfl, fun j x u h1 h2 => by
      cases j with
      | zero => simp at h1 h2; subst h1; subst h2; exact hv H
      | succ j => simp at h1⟩
    exact relAll_append h1 ⟨hra.1, fun j x u h1 h2 => pure_rel (List.all_eq_true.1 hp x (List.mem_of_getElem? h1)) (hra.2 j x u h1 h2)⟩
  have hcall := hc H w _ hra' (knowOk_of hs.heap)
  have hexec : (execOp a.eval o).run P w = .ok (.enter f (#[v] ++ args.map a.eval)) w := by
    have h0 : (#[Value.iface t v] ++ args.map a.eval)[0]? = some (.iface t v) := by
      rw [Array.getElem?_append_left (by simp)]; rfl
    have hex : (#[Value.iface t v] ++ args.map a.eval).extract 1 (#[Value.iface t v] ++ args.map a.eval).size = args.map a.eval := by
      apply Array.ext'
      simp only [Array.toList_extract, Array.toList_append, Array.toList_map, Array.size_append, Array.size_map, List.extract_eq_take_drop]
      exact List.take_of_length_le (by simp)
    simp only [execOp, ho, resolve, hre, invoke, Sem.run_bind, Sem.run_pure, Result.andThen_ok, h0, hex, callMethod, run_program, hm w, run_callFunc hf hn hb]
  unfold Oper.wp
  rw [hexec]
  refine hcall.mono fun en w' hh => ?_
  obtain ⟨v', r', H', rfl, rfl, k1, k2⟩ := hh
  obtain ⟨u1, u2⟩ := hs.heap.grown k2
  exact ⟨v', H', ι, rfl, (fun x ex => by cases ex; exact k1.mono (KLe.refl _) (LLe.none _)), u1, u2⟩
end
section
variable {P : Program} {T : Nat → Option TyI} {o : Oper} {e : AEnv} {h : AHeap}
theorem o_appendN (hT : TOk P T) {t t' : TypeId} {x y : Operand} {i i' j : TyI} {u u' : Nat} {es2 : List (List AV)} {q : AV} {R : List Nat} (b : Nat)
    (ho : o.op = .call { callee := .builtin .append, args := #[x, y], argTypes := #[t, t'] }) (hx : look e x = some .nil) (hy : look e y = some q) (hi : T t = some i) (hk : i.k = .slice u) (hj : T u = some j) (hi' : T t' = some i') (hk' : i'.k = .slice u')
    (hb : h b = some .free) (hz : j.zero.length = j.size) (hp : 0 < j.size) (hsrc : SrcOf h q R es2) (hu2 : ∀ cs ∈ es2, cs.length = j.size) (hne : 0 < es2.length)
    (hby : es2.length * j.bytes ≤ 140737488355328) (hml : es2.length ≤ maxLen) :
    OLoc P o e h (b :: R) [(b, .row false j.size es2)] (some (.ref b es2.length 0 es2.length)) := by
  refine OLoc.of_new hb (by simp) hp fun H ι a w s hs g1 g2 => ?_
  have hx' : look s.env x = some .nil := by rw [g1 x z40q, hx]
  have hy' : look s.env y = some q := by rw [g1 y z40q, hy]
  have hsrc' := hsrc.agree (h' := s.h) (fun c hc => g2 c (by simp [hc]))
  obtain ⟨info, d, e1, e2, e3, e4, e5, e6⟩ := tyOf_spec (hT _ _ hi)
  obtain ⟨infou, du, f1, f2, f3, f4, f5, f6⟩ := tyOf_spec (hT _ _ hj)
  obtain ⟨info', d', e1', e2', e3', e4', e5', e6'⟩ := tyOf_spec (hT _ _ hi')
  have hd := tk_slice (P := P) (d := d) (e3 ▸ hk)
  subst hd
  have hd' := tk_slice (P := P) (d := d') (e3' ▸ hk')
  subst hd'
  obtain ⟨z, hz1, hz2⟩ := zero_spec f6 hz hp
  have hzl : z.cells.size = j.size := by rw [← hz]; simpa using (allAV_rel (H := H) (ι := noLay) hz2).1.symm
  have hvx := look_rel hs hx'
  have hvy := look_rel hs hy'
  generalize hva : a.eval x = va at hvx
  generalize hvb : a.eval y = vb at hvy
  have hexec : ∀ (v : Value) (w' : World), (Builtin.append_ #[t, t'] o.type #[va, vb]).run P w = .ok v w' → (execOp a.eval o).run P w = .ok (.value v) w' := fun v w' hrun => by
    simp only [execOp, ho, resolve, invoke, builtin, Sem.run_bind, Sem.run_pure, Result.andThen_ok, List.map_toArray, List.map_cons, List.map_nil, hva, hvb, hrun]
  obtain ⟨news, hsrcw, hnews⟩ := src_of hs.heap hsrc' hvy e2' hp hu2 w rfl
  rw [← f4] at hsrcw
  have hnl : news.length = es2.length * j.size := by rw [hsrcw.newsLen, f4]
  have h63 : ((0 + es2.length : Nat) : Int) ≤ 9223372036854775807 := by
    have := hml; simp only [maxLen] at this; omega
  obtain ⟨base, hv, hold⟩ : ∃ (base : Option Addr), va = .slice base 0 0 ∧ (Builtin.firstCells infou.size 0 (.slice base 0 0)).run P w.drew = .ok ([] : List Value).toArray w.drew := by
    have := hvx.nil_inv
    subst this
    exact ⟨none, rfl, by simp [Builtin.firstCells, loadCells, loadCellsFrom]⟩
  have hfit : Builtin.nextslicecap (0 + es2.length) 0 * infou.bytes ≤ 281474976710656 := growslice_fits (by omega) (by rw [f5, Nat.zero_add]; exact hby)
  have hrun := run_append_grow_src (P := P) w t t' o.type u infou z e2 f1 hz1 base 0 0 [] hold vb es2.length news hsrcw (by omega) h63 hfit
  have hge := grownCap_ge w (0 + es2.length) 0 u
  have hcm : grownCap w (0 + es2.length) 0 u ≤ maxLen := grownCap_le_maxLen w _ 0 u (by omega)
  generalize hcc : grownCap w (0 + es2.length) 0 u = nc at *
  generalize hC : (([] : List Value) ++ news).toArray ++ Builtin.zeroCells z.cells (nc - (0 + es2.length)) = C at *
  have hCs : C.size = nc * j.size := by
    rw [← hC, Array.size_append, size_zeroCells, hzl]
    simp only [List.size_toArray, List.nil_append, hnl, ← Nat.add_mul]
    congr 1; omega
  have hCg : ∀ k, k < news.length → C[k]? = news[k]? := fun k hk => by
    rw [← hC, Array.getElem?_append_left (by simp; omega)]
    simp
  refine ⟨_, C, u, w.drew, rfl, rfl, rfl, ?_, ⟨fun i cs h => hu2 cs (List.mem_of_getElem? h), fun i cs k y h1 h2 => ?_⟩, hexec _ _ (hv ▸ hrun), ?_⟩
  · rw [hCs]; exact Nat.mul_le_mul_right _ (by omega)
  · obtain ⟨v, k1, k2, k3⟩ := hnews i cs k y h1 h2
    exact ⟨v, by rw [hCg _ (List.getElem?_eq_some_iff.1 k1).1]; exact k1, k2, k3⟩
  · have := Rel.refL (H := H) (lput ι b ⟨w.heap.size, j.size, es2.length, C.size⟩) b es2.length 0 es2.length nc _ (lput_same _ _ _) rfl (by omega) (by omega) (by simp [hCs]) hcm
    simpa using this
end
def elemTy (T : Nat → Option TyI) (t : Nat) : Option TyI := match T t with
  | some i => match i.k with
    | .slice u => T u
    | _ => none
  | none => none
theorem elemTy_spec {T : Nat → Option TyI} {t : Nat} {j : TyI} (h : elemTy T t = some j) : ∃ i u, T t = some i ∧ i.k = .slice u ∧ T u = some j := by
  unfold elemTy at h
  split at h
  · rename_i i hi
    split at h
    · rename_i u hk
      exact ⟨i, u, hi, hk, h⟩
    · cases h
  · cases h
def isFree (h : AHeap) (b : Nat) : Bool := match h b with
  | some .free => true
  | _ => false
theorem isFree_spec {h : AHeap} {b : Nat} (e : isFree h b = true) : h b = some .free := by
  unfold isFree at e
  split at e
  · assumption
  · cases e
def zeroOk (i : TyI) : Bool := Nat.beq i.zero.length i.size && (Nat.blt 0 i.size && i.zero.all AV.cell1)
theorem zeroOk_spec {i : TyI} (h : zeroOk i = true) : i.zero.length = i.size ∧ 0 < i.size ∧ i.zero.all AV.cell1 = true := by
  unfold zeroOk at h
  rw [Bool.and_eq_true, Bool.and_eq_true] at h
  exact ⟨Nat.eq_of_beq_eq_true h.1, by have := h.2.1; simpa [Nat.blt_eq] using this, h.2.2⟩
def qEv2 (P : Program) (T : Nat → Option TyI) (o : Op) (e : AEnv) (h : AHeap) : Option (List Nat × AV) :=
  match o with
  | .indexAddr t x y => match look e x, look e y with
    | some (.lst ex es), some (.int k n) => match elemTy T t, decide (0 ≤ n), es[n.toNat]? with
      | some j, true, some cs => match Nat.beq cs.length j.size with
        | true => some ([], .loc cs)
        | false => none
      | _, _, _ => none
    | some (.ref b m off len), some (.int k n) => match elemTy T t, h b, decide (0 ≤ n), decide (n < len) with
      | some j, some (.row p sz es), true, true => match Nat.beq m es.length, Nat.beq sz j.size with
        | true, true => some ([b], .ptr b m (off + n.toNat) 0)
        | _, _ => none
      | _, _, _, _ => none
    | some p, some (.int k n) => match T t with
      | some i => match i.k with
        | .array len u => match T u, decide (0 ≤ n), decide (n < len) with
          | some j, true, true => match moveAV p (n.toNat * j.size) with
            | some r => some ([], r)
            | none => none
          | _, _, _ => none
        | _ => none
      | none => none
    | _, _ => none
  | .build t parts => match lookParts e parts.toList, T t with
    | some ps, some i => match i.k with
      | .struct fs => match zeroOk i, partsFit T fs ps, allKnown T fs, partCells fs ps i.zero with
        | true, true, true, some r => some ([], .agg r)
        | _, _, _, _ => none
      | _ => none
    | _, _ => none
  | .makeFunc f first captured => match lookAll e first.toList, lookAll e captured.toList with
    | some xs, some cs => some ([], .fn f xs cs)
    | _, _ => none
  | .makeInterface t x => match look e x, T t with
    | some y, some i => match y.whole, i.k with
      | some u, .struct _ => some ([], .val (.iface t u))
      | _, _ => none
    | _, _ => none
  | .unOp .neg t x => match look e x with
    | some (.int k n) => some ([], .int k (k.wrap (0 - n)))
    | _ => none
  | .slice t x none (some y) none => match look e x, look e y with
    | some (.ref b n 0 len), some (.int k z) => match elemTy T t, h b, decide (0 ≤ z), decide (z.toNat ≤ len) with
      | some j, some (.row p sz es), true, true => match Nat.beq n es.length with
        | true => some ([b], .ref b n 0 z.toNat)
        | false => none
      | _, _, _, _ => none
    | some (.lst ex es), some (.int k z) => match elemTy T t, decide (0 ≤ z), decide (z.toNat ≤ es.length) with
      | some j, true, true => match es.all (fun cs => Nat.beq cs.length j.size) with
        | true => some ([], .lst (ex && Nat.beq z.toNat es.length) ((es.take z.toNat).drop 0))
        | false => none
      | _, _, _ => none
    | _, _ => none
  | _ => none
section
variable {P : Program} {T : Nat → Option TyI} {o : Oper} {e : AEnv} {h : AHeap} {R : List Nat} {r : AV}
theorem qEv2_spec (hT : TOk P T) (hq : qEv2 P T o.op e h = some (R, r)) : QLoc P o e h R r := by
  unfold qEv2 at hq
  split at hq
  · rename_i t x y ho
    split at hq
    · rename_i ex es k n hx hy
      split at hq
      · rename_i j cs hj h0 hn
        split at hq
        · rename_i hs
          simp only [Option.some.injEq, Prod.mk.injEq] at hq
          obtain ⟨rfl, rfl⟩ := hq
          obtain ⟨i, u, a1, a2, a3⟩ := elemTy_spec hj
          exact q_index_lst hT ho hx hy a1 a2 a3 (of_decide_eq_true h0) hn (Nat.eq_of_beq_eq_true hs)
        · cases hq
      · cases hq
    · rename_i b m off len k n hx hy
      split at hq
      · rename_i j p sz es hj hb h0 hn
        split at hq
        · rename_i h1 h2
          simp only [Option.some.injEq, Prod.mk.injEq] at hq
          obtain ⟨rfl, rfl⟩ := hq
          obtain ⟨i, u, a1, a2, a3⟩ := elemTy_spec hj
          exact q_index_ref hT ho hx hy a1 a2 a3 hb (Nat.eq_of_beq_eq_true h1) (Nat.eq_of_beq_eq_true h2) (of_decide_eq_true h0) (of_decide_eq_true hn)
        · cases hq
      · cases hq
    · rename_i p k n _ _ hx hy
      split at hq
      · rename_i i hi
        split at hq
        · rename_i len u hk
          split at hq
          · rename_i j hj h0 hn
            split at hq
            · rename_i r' hr
              simp only [Option.some.injEq, Prod.mk.injEq] at hq
              obtain ⟨rfl, rfl⟩ := hq
              exact q_index_arr hT ho hx hy hi hk hj (of_decide_eq_true h0) (of_decide_eq_true hn) hr
            · cases hq
          · cases hq
        · cases hq
      · cases hq
    · cases hq
  · rename_i t parts ho
    split at hq
    · rename_i ps i hp hi
      split at hq
      · rename_i fs hk
        split at hq
        · rename_i r' hz hf ha hr
          simp only [Option.some.injEq, Prod.mk.injEq] at hq
          obtain ⟨rfl, rfl⟩ := hq
          obtain ⟨z1, z2, z3⟩ := zeroOk_spec hz
          exact q_build hT ho hp hi hk z1 z2 hf ha hr
        · cases hq
      · cases hq
    · cases hq
  · rename_i f first captured ho
    split at hq
    · rename_i xs cs hx hc
      simp only [Option.some.injEq, Prod.mk.injEq] at hq
      obtain ⟨rfl, rfl⟩ := hq
      exact q_makeFunc ho hx hc
    · cases hq
  · rename_i t x ho
    split at hq
    · rename_i y i hx hi
      split at hq
      · rename_i u fs hy hk
        simp only [Option.some.injEq, Prod.mk.injEq] at hq
        obtain ⟨rfl, rfl⟩ := hq
        exact q_iface hT ho hx hy hi (by rw [hk]; intro h; cases h)
      · cases hq
    · cases hq
  · rename_i t x ho
    split at hq
    · rename_i k n hx
      simp only [Option.some.injEq, Prod.mk.injEq] at hq
      obtain ⟨rfl, rfl⟩ := hq
      exact q_neg ho hx
    · cases hq
  · rename_i t x y ho
    split at hq
    · rename_i b n len k z hx hy
      split at hq
      · rename_i j p sz es hj hb h0 hz
        split at hq
        · rename_i h1
          simp only [Option.some.injEq, Prod.mk.injEq] at hq
          obtain ⟨rfl, rfl⟩ := hq
          obtain ⟨i, u, a1, a2, a3⟩ := elemTy_spec hj
          exact q_slice_ref hT ho hx hy a1 a2 a3 hb (Nat.eq_of_beq_eq_true h1) (by have := of_decide_eq_true h0; omega) (of_decide_eq_true hz)
        · cases hq
      · cases hq
    · rename_i ex es k z hx hy
      split at hq
      · rename_i j hj h0 hz
        split at hq
        · rename_i h1
          simp only [Option.some.injEq, Prod.mk.injEq] at hq
          obtain ⟨rfl, rfl⟩ := hq
          obtain ⟨i, u, a1, a2, a3⟩ := elemTy_spec hj
          exact q_slice_lst hT 0 z.toNat ho hx a1 a2 a3 rfl ⟨k, by rw [hy, Int.toNat_of_nonneg (of_decide_eq_true h0)]⟩ (Nat.zero_le _) (of_decide_eq_true hz) (fun cs hc => Nat.eq_of_beq_eq_true (List.all_eq_true.1 h1 cs hc))
        · cases hq
      · cases hq
    · cases hq
  · cases hq
end
def OCallR (P : Program) (o : Oper) (e : AEnv) (h : AHeap) (R : AV → AHeap → Prop) : Prop :=
  ∀ (H : Know) (ι : Lay) (a : Act) (w : World) (n : Nat) (Q : Exit → Act → World → Prop), Sim H ι ⟨n, e, h⟩ a w →
    o.wp P a w (fun a' w' => ∃ v r h' H' ι', R r h' ∧ a' = a.put o.dst v ∧ Rel H' ι' r v ∧ HeapRel H' ι' h' w' ∧ Step H ι h w H' ι' h' w') Q
section
variable {P : Program} {o : Oper} {e : AEnv} {h : AHeap} {R : AV → AHeap → Prop}
theorem ocall_of {f : FuncId} {xs : List AV} {us : Act → Array Value} (hus : ∀ H ι a w n, Sim H ι ⟨n, e, h⟩ a w → RelAll H ι xs (us a)) (hex : ∀ H ι a w n, Sim H ι ⟨n, e, h⟩ a w → (execOp a.eval o).run P w = .ok (.enter f (us a)) w)
    (hcall : ACall P f xs h R) : OCallR P o e h R := by
  intro H ι a w n Q hs
  have hcalls := hcall H ι w _ (hus H ι a w n hs) hs.heap
  unfold Oper.wp
  rw [hex H ι a w n hs]
  refine hcalls.mono fun en w' hh => ?_
  obtain ⟨v, r', h', H', ι', rfl, hR, k1, k2, k3⟩ := hh
  exact ⟨v, r', h', H', ι', hR, rfl, k1, k2, k3⟩
theorem o_inF {f : FuncId} {fn : Func} {x : Operand} {args : Array Operand} {tys : Array TypeId} {fs xs cs : List AV} (ho : o.op = .call { callee := .value x, args := args, argTypes := tys }) (hfn : look e x = some (.fn (.func f) fs cs)) (hf : P.funcs[f]? = some fn) (hnm : (fn.name == "runtime.NumGoroutine") = false) (hb : fn.body.isSome = true)
    (hx : lookAll e args.toList = some xs) (hcall : ACall P f (fs ++ xs ++ cs) h R) : OCallR P o e h R := by
  intro H ι a w n Q hs
  have hvf := look_rel hs hfn
  obtain ⟨us, vs, hve, k1, k2, k3, k4⟩ := hvf.fn_inv
  have hraa := relAll_append (relAll_append ⟨k1, k3⟩ (relAll_map hs hx)) ⟨k2, k4⟩
  have hcalls := hcall H ι w _ hraa hs.heap
  have hexec : (execOp a.eval o).run P w = .ok (.enter f (us ++ args.map a.eval ++ vs)) w := by
    simp only [execOp, ho, resolve, hve, Deferred.ofValue, invoke, Sem.run_bind, Sem.run_pure, Result.andThen_ok, run_callFunc hf hnm hb]
  unfold Oper.wp
  rw [hexec]
  refine hcalls.mono fun en w' hh => ?_
  obtain ⟨v, r', h', H', ι', rfl, hR, k1, k2, k3⟩ := hh
  exact ⟨v, r', h', H', ι', hR, rfl, k1, k2, k3⟩
theorem o_inV {f : FuncId} {fn : Func} {x : Operand} {args : Array Operand} {tys : Array TypeId} {xs : List AV} (ho : o.op = .call { callee := .value x, args := args, argTypes := tys }) (hfn : look e x = some (.val (.func (.func f) #[] #[]))) (hf : P.funcs[f]? = some fn) (hnm : (fn.name == "runtime.NumGoroutine") = false) (hb : fn.body.isSome = true)
    (hx : lookAll e args.toList = some xs) (hcall : ACall P f xs h R) : OCallR P o e h R :=
  ocall_of (us := fun a => args.map a.eval) (fun H ι a w n hs => relAll_map hs hx) (fun H ι a w n hs => by
    have hye := ((look_rel hs hfn).val_inv).1
    simp only [execOp, ho, resolve, hye, Deferred.ofValue, invoke, Sem.run_bind, Sem.run_pure, Result.andThen_ok, Array.append_empty, Array.empty_append, run_callFunc hf hnm hb]) hcall
theorem o_inM {f : FuncId} {fn : Func} {recv : Operand} {name : String} {args : Array Operand} {tys : Array TypeId} {t : TypeId} {v : Value} {x0 : AV} {xs : List AV} (ho : o.op = .call { callee := .invoke recv name, args := args, argTypes := tys })
    (hr : look e recv = some (.val (.iface t v))) (hm : ∀ w, (method (P.types.size + Made.depth) t v name).run P w = .ok (f, v) w) (hv : ∀ H, Rel H noLay x0 v)
    (hf : P.funcs[f]? = some fn) (hnm : (fn.name == "runtime.NumGoroutine") = false) (hb : fn.body.isSome = true)
    (hx : lookAll e args.toList = some xs) (hcall : ACall P f (x0 :: xs) h R) : OCallR P o e h R :=
  ocall_of (us := fun a => #[v] ++ args.map a.eval) (fun H ι a w n hs => by
    have h1 : RelAll H ι [x0] #[v] := ⟨rfl, fun j x u h1 h2 => by
      cases j with
      | zero => simp at h1 h2; subst h1; subst h2; exact (hv H).mono (KLe.refl _) (LLe.none _)
      | succ j => simp at h1⟩
    exact relAll_append h1 (relAll_map hs hx)) (fun H ι a w n hs => by
    have hre := ((look_rel hs hr).val_inv).1
    have h0 : (#[Value.iface t v] ++ args.map a.eval)[0]? = some (.iface t v) := by
      rw [Array.getElem?_append_left (by simp)]; rfl
    have hex : (#[Value.iface t v] ++ args.map a.eval).extract 1 (#[Value.iface t v] ++ args.map a.eval).size = args.map a.eval := by
      apply Array.ext'
      simp only [Array.toList_extract, Array.toList_append, Array.toList_map, Array.size_append, Array.size_map, List.extract_eq_take_drop]
      exact List.take_of_length_le (by simp)
    simp only [execOp, ho, resolve, hre, invoke, Sem.run_bind, Sem.run_pure, Result.andThen_ok, h0, hex, callMethod, run_program, hm w, run_callFunc hf hnm hb]) hcall
theorem wpList_post {ops : Array Oper} {K : AState → Prop} {H H' : Know} {ι ι' : Lay} {h hn : AHeap} {w w' : World} (hpost : ∀ e a2 w2, Post H' ι' hn w' (Then K fun _ _ => False) e a2 w2 → Post H ι h w (Then K fun _ _ => False) e a2 w2) :
    ∀ (l : List Oper) (a1 : Act) (w1 : World), wpList P ops (Post H' ι' hn w' (Then K fun _ _ => False)) l a1 w1 → wpList P ops (Post H ι h w (Then K fun _ _ => False)) l a1 w1 := by
  intro l
  induction l with
  | nil => exact fun a1 w1 hp => hpost _ _ _ hp
  | cons o' l ih =>
    intro a1 w1 hp
    unfold wpList at hp ⊢
    by_cases hw : Region.wanted o' (yielded ops a1.tmps) = true
    · rw [if_pos hw] at hp ⊢
      rcases hp with hp | ⟨hp1, a2, w2, hp2⟩
      · refine .inl ?_
        have hp' := Oper.wp_mono (fun a2 w2 => ih a2 w2) hp
        clear hp
        unfold Oper.wp at hp' ⊢
        generalize (execOp a1.eval o').run P w1 = res at hp' ⊢
        cases res with
        | ok n w3 =>
          cases n <;> simp only [Oper.upon] at hp' ⊢ <;> first
            | exact hp'
            | exact Calls.mono hp' (fun e w4 he => by cases e <;> first | exact he | exact hpost _ _ _ he | (obtain ⟨a3, w5, hp3⟩ := he; exact ⟨a3, w5, hpost _ _ _ hp3⟩))
        | halt x w3 => cases x <;> simp only [Oper.upon] at hp' ⊢ <;> first | exact hpost _ _ _ hp' | exact hp'
      · exact .inr ⟨hp1, a2, w2, hpost _ _ _ hp2⟩
    · rw [if_neg hw] at hp ⊢
      exact ih _ _ hp
theorem AOps.inn {ops : Array Oper} {rest : List Oper} {n : Nat} {K : AState → Prop} (d : Nat) (hd : o.dst = some d) (hb : Nat.blt d n = true) (hg : guardIs ops o e = some true)
    (ho : OCallR P o e h (fun r hn => AOps P ops rest ⟨n, eput e d r, hn⟩ K)) : AOps P ops (o :: rest) ⟨n, e, h⟩ K := by
  intro H ι a w hs
  unfold wpList
  rw [guard_wanted hs hg]
  simp only [if_true]
  refine .inl (Oper.wp_mono (fun a' w' hx => ?_) (ho H ι a w n _ hs))
  obtain ⟨v, r, hn, H', ι', hr, rfl, h1, h2, h3⟩ := hx
  have hs' := hs.put (d := o.dst) (r := some r) h2 h3 (fun x ex => by cases ex; exact h1) (lt_of hd hb)
  rw [hd] at hs' ⊢
  exact wpList_post (fun e a2 w2 hp => Post.step hs.heap h2 h3 hp) _ _ _ (hr H' ι' _ w' hs')
end
def srcEv (h : AHeap) : AV → Option (List Nat × List (List AV))
  | .lst ex es => some ([], es)
  | .nil => some ([], [])
  | .ref b n off len => match h b with
    | some (.row p sz es) => match Nat.beq n es.length with
      | true => some ([b], (es.drop off).take len)
      | false => none
    | _ => none
  | _ => none
theorem srcEv_spec {h : AHeap} {q : AV} {R : List Nat} {es : List (List AV)} (e : srcEv h q = some (R, es)) : SrcOf h q R es := by
  unfold srcEv at e
  split at e
  · simp only [Option.some.injEq, Prod.mk.injEq] at e
    obtain ⟨rfl, rfl⟩ := e
    exact .lst _ _
  · simp only [Option.some.injEq, Prod.mk.injEq] at e
    obtain ⟨rfl, rfl⟩ := e
    exact .nil
  · split at e
    · rename_i hb
      split at e
      · rename_i h1
        simp only [Option.some.injEq, Prod.mk.injEq] at e
        obtain ⟨rfl, rfl⟩ := e
        exact .ref _ _ _ _ _ _ _ hb (Nat.eq_of_beq_eq_true h1)
      · cases e
    · cases e
  · cases e
def allLen (n : Nat) (es : List (List AV)) : Bool := es.all fun cs => Nat.beq cs.length n
theorem allLen_spec {n : Nat} {es : List (List AV)} (h : allLen n es = true) : ∀ cs ∈ es, cs.length = n := fun cs hc => Nat.eq_of_beq_eq_true (List.all_eq_true.1 h cs hc)
def allPure (p : Bool) (es : List (List AV)) : Bool := !p || es.all fun cs => cs.all AV.isPure1
theorem allPure_spec {p : Bool} {es : List (List AV)} (h : allPure p es = true) : p = true → ∀ cs ∈ es, cs.all AV.isPure1 = true := fun hp cs hc => by
  unfold allPure at h
  rw [hp, Bool.not_true, Bool.false_or] at h
  exact List.all_eq_true.1 h cs hc
abbrev XRes := List Nat × List (Nat × AObj) × Option AV × Nat
def appEv (T : Nat → Option TyI) (h : AHeap) (k : Nat) (t t' : TypeId) (p q : AV) : Option XRes :=
  match elemTy T t, elemTy T t', srcEv h q with
  | some j, some _, some (R, es2) => match zeroOk j, allLen j.size es2 with
    | true, true => match p with
      | .nil => match isFree h k, Nat.blt 0 es2.length, Nat.ble (es2.length * j.bytes) 140737488355328, Nat.ble es2.length maxLen with
        | true, true, true, true => some (k :: R, [(k, .row false j.size es2)], some (.ref k es2.length 0 es2.length), k + 1)
        | _, _, _, _ => none
      | .ref b n 0 len => match h b with
        | some (.row pu sz es) => match Nat.beq n es.length, Nat.beq sz j.size, allPure pu es2 with
          | true, true, true => match Nat.beq len n with
            | true => match Nat.ble ((es.length + es2.length) * j.bytes) 140737488355328, Nat.ble (es.length + es2.length) maxLen with
              | true, true => some (b :: R, [(b, .row pu sz (es ++ es2))], some (.ref b (n + es2.length) 0 (n + es2.length)), k)
              | _, _ => none
            | false => match es2, Nat.ble len n, Nat.ble ((es.length + 1) * j.bytes) 140737488355328, Nat.ble (es.length + 1) maxLen with
              | [cs2], true, true, true => some (b :: R, [(b, .row pu sz (pushE es len cs2))], some (.ref b (pushE es len cs2).length 0 (len + 1)), k)
              | _, _, _, _ => none
          | _, _, _ => none
        | _ => none
      | _ => none
    | _, _ => none
  | _, _, _ => none
section
variable {P : Program} {T : Nat → Option TyI} {o : Oper} {e : AEnv} {h : AHeap}
theorem appEv_spec (hT : TOk P T) {t t' : TypeId} {x y : Operand} {p q : AV} {k k' : Nat} {R : List Nat} {W : List (Nat × AObj)} {r : Option AV} (ho : o.op = .call { callee := .builtin .append, args := #[x, y], argTypes := #[t, t'] }) (hx : look e x = some p) (hy : look e y = some q)
    (hv : appEv T h k t t' p q = some (R, W, r, k')) : OLoc P o e h R W r := by
  unfold appEv at hv
  split at hv
  · rename_i j j' R0 es2 hj hj' hs
    obtain ⟨i, u, a1, a2, a3⟩ := elemTy_spec hj
    obtain ⟨i', u', b1, b2, b3⟩ := elemTy_spec hj'
    have hsrc := srcEv_spec hs
    split at hv
    · rename_i hz hl
      obtain ⟨z1, z2, z3⟩ := zeroOk_spec hz
      split at hv
      · split at hv
        · rename_i c1 c2 c3 c4
          simp only [Option.some.injEq, Prod.mk.injEq] at hv
          obtain ⟨rfl, rfl, rfl, rfl⟩ := hv
          exact o_appendN hT k ho hx hy a1 a2 a3 b1 b2 (isFree_spec c1) z1 z2 hsrc (allLen_spec hl) (by simpa [Nat.blt_eq] using c2) (Nat.le_of_ble_eq_true c3) (Nat.le_of_ble_eq_true c4)
        · cases hv
      · rename_i b n len
        split at hv
        · rename_i pu sz es hb
          split at hv
          · rename_i c1 c2 c3
            split at hv
            · rename_i c4
              have c4 := Nat.eq_of_beq_eq_true c4
              subst c4
              split at hv
              · rename_i c5 c6
                simp only [Option.some.injEq, Prod.mk.injEq] at hv
                obtain ⟨rfl, rfl, rfl, rfl⟩ := hv
                have c2' := Nat.eq_of_beq_eq_true c2
                exact o_append hT ho hx hy a1 a2 a3 b1 b2 hb (Nat.eq_of_beq_eq_true c1) c2' z1 z2 hsrc (by rw [c2']; exact allLen_spec hl) (allPure_spec c3) rfl (Nat.le_of_ble_eq_true c5) (Nat.le_of_ble_eq_true c6)
              · cases hv
            · split at hv
              · rename_i cs2 c5 c6 c7
                simp only [Option.some.injEq, Prod.mk.injEq] at hv
                obtain ⟨rfl, rfl, rfl, rfl⟩ := hv
                have c2' := Nat.eq_of_beq_eq_true c2
                exact o_push hT ho hx hy a1 a2 a3 b1 b2 hb (Nat.eq_of_beq_eq_true c1) (Nat.le_of_ble_eq_true c5) c2' z1 z2 hsrc (by rw [c2']; exact allLen_spec hl _ (by simp)) (fun hp => allPure_spec c3 hp _ (by simp)) (Nat.le_of_ble_eq_true c6) (Nat.le_of_ble_eq_true c7)
              · cases hv
          · cases hv
        · cases hv
      · cases hv
    · cases hv
  · cases hv
end
def xEv (T : Nat → Option TyI) (dst : Option Nat) (o : Op) (e : AEnv) (h : AHeap) (k : Nat) : Option XRes :=
  match o with
  | .alloc t => match T t, isFree h k with
    | some i, true => match zeroOk i with
      | true => some ([k], [(k, .row false i.size [i.zero])], some (.ptr k 1 0 0), k + 1)
      | false => none
    | _, _ => none
  | .box t x => match look e x, isFree h k with
    | some p, true => match Nat.blt 0 p.cells.length, p.cells.all AV.cell1 with
      | true, true => some ([k], [(k, .row false p.cells.length [p.cells])], some (.ptr k 1 0 0), k + 1)
      | _, _ => none
    | _, _ => none
  | .store t x y => match dst, look e x, look e y, T t with
    | none, some (.ptr b m k0 off), some q, some i => match h b with
      | some (.row p sz es) => match es[k0]?, Nat.beq m es.length, Nat.beq q.cells.length i.size, Nat.ble (off + i.size) sz, q.cells.all AV.cell1, (!p || q.cells.all AV.isPure1) with
        | some cs, true, true, true, true, true => some ([b], [(b, .row p sz (es.set k0 (splice cs off q.cells)))], none, k)
        | _, _, _, _, _, _ => none
      | _ => none
    | _, _, _, _ => none
  | .buildSlice t len parts => match lookParts e parts.toList, elemTy T t, isFree h k with
    | some ps, some j, true => match zeroOk j, decide (parts.toList.map (·.1) = List.range parts.toList.length), Nat.beq parts.toList.length len, sizesAre j.size ps, (partVals ps).all (·.all AV.cell1), Nat.ble (len * j.size) 16777216 with
      | true, true, true, true, true, true => some ([k], [(k, .row false j.size (partVals ps))], some (.ref k len 0 len), k + 1)
      | _, _, _, _, _, _ => none
    | _, _, _ => none
  | .makeSlice t x y => match look e x, look e y, elemTy T t, isFree h k with
    | some (.int _ zi), some (.int _ zj), some j, true => match zeroOk j, decide (0 ≤ zi), decide (0 ≤ zj), Nat.ble zi.toNat zj.toNat, Nat.ble (j.bytes * zj.toNat) 281474976710656, Nat.ble zj.toNat maxLen with
      | true, true, true, true, true, true => some ([k], [(k, .row false j.size (List.replicate zi.toNat j.zero))], some (.ref k zi.toNat 0 zi.toNat), k + 1)
      | _, _, _, _, _, _ => none
    | _, _, _, _ => none
  | .call ⟨.builtin .append, args, tys⟩ => match args.toList, tys.toList with
    | [x, y], [t, t'] => match look e x, look e y with
      | some p, some q => appEv T h k t t' p q
      | _, _ => none
    | _, _ => none
  | _ => none
section
variable {P : Program} {T : Nat → Option TyI} {o : Oper} {e : AEnv} {h : AHeap}
theorem arr_two {α : Type} {a : Array α} {x y : α} (h : a.toList = [x, y]) : a = #[x, y] := Array.ext' h
theorem xEv_spec (hT : TOk P T) {k k' : Nat} {R : List Nat} {W : List (Nat × AObj)} {r : Option AV} (hv : xEv T o.dst o.op e h k = some (R, W, r, k')) : OLoc P o e h R W r := by
  unfold xEv at hv
  split at hv
  · rename_i t ho
    split at hv
    · rename_i i hi hf
      split at hv
      · rename_i hz
        simp only [Option.some.injEq, Prod.mk.injEq] at hv
        obtain ⟨rfl, rfl, rfl, rfl⟩ := hv
        obtain ⟨z1, z2, z3⟩ := zeroOk_spec hz
        exact o_alloc hT k ho hi (isFree_spec hf) z1 z2 z3
      · cases hv
    · cases hv
  · rename_i t x ho
    split at hv
    · rename_i p hx hf
      split at hv
      · rename_i c1 c2
        simp only [Option.some.injEq, Prod.mk.injEq] at hv
        obtain ⟨rfl, rfl, rfl, rfl⟩ := hv
        exact o_box k ho hx (isFree_spec hf) rfl (by simpa [Nat.blt_eq] using c1) c2
      · cases hv
    · cases hv
  · rename_i t x y ho
    split at hv
    · rename_i b m k0 off q i hd hx hy hi
      split at hv
      · rename_i p sz es hb
        split at hv
        · rename_i cs c1 c2 c3 c4 c5 c6
          simp only [Option.some.injEq, Prod.mk.injEq] at hv
          obtain ⟨rfl, rfl, rfl, rfl⟩ := hv
          exact o_store hT ho hd hx hy hi hb (Nat.eq_of_beq_eq_true c2) c1 (Nat.eq_of_beq_eq_true c3) (Nat.le_of_ble_eq_true c4) c5 (fun hp => by rw [hp] at c6; simpa using c6)
        · cases hv
      · cases hv
    · cases hv
  · rename_i t len parts ho
    split at hv
    · rename_i ps j hp hj hf
      obtain ⟨i, u, a1, a2, a3⟩ := elemTy_spec hj
      split at hv
      · rename_i c1 c2 c3 c4 c5 c6
        simp only [Option.some.injEq, Prod.mk.injEq] at hv
        obtain ⟨rfl, rfl, rfl, rfl⟩ := hv
        obtain ⟨z1, z2, z3⟩ := zeroOk_spec c1
        exact o_litRow hT k false ho hp a1 a2 a3 z1 z2 (of_decide_eq_true c2) (Nat.eq_of_beq_eq_true c3) c4 c5 (fun h => by cases h) c6 (isFree_spec hf)
      · cases hv
    · cases hv
  · rename_i t x y ho
    split at hv
    · rename_i k1 zi k2 zj j hx hy hj hf
      obtain ⟨i, u, a1, a2, a3⟩ := elemTy_spec hj
      split at hv
      · rename_i c1 c2 c3 c4 c5 c6
        simp only [Option.some.injEq, Prod.mk.injEq] at hv
        obtain ⟨rfl, rfl, rfl, rfl⟩ := hv
        obtain ⟨z1, z2, z3⟩ := zeroOk_spec c1
        exact o_makeSlice hT k false ho hx hy (Int.toNat_of_nonneg (of_decide_eq_true c2)).symm (Int.toNat_of_nonneg (of_decide_eq_true c3)).symm a1 a2 a3 (isFree_spec hf) z1 z2 z3 (Nat.le_of_ble_eq_true c4) (Nat.le_of_ble_eq_true c5) (Nat.le_of_ble_eq_true c6)
      · cases hv
    · cases hv
  · rename_i args tys ho
    split at hv
    · rename_i x y t t' ha ht
      split at hv
      · rename_i p q hx hy
        exact appEv_spec hT (ho.trans (by rw [arr_two ha, arr_two ht])) hx hy hv
      · cases hv
    · cases hv
  · cases hv
end
section
variable {P : Program} {T : Nat → Option TyI} {o : Oper} {e : AEnv} {h : AHeap}
theorem o_range0 (hT : TOk P T) {t : TypeId} {x : Operand} {i : TyI} {u u' : Nat} (b : Nat) (ho : o.op = .range t x) (hx : look e x = some (.val (.map none))) (hi : T t = some i) (hk : i.k = .map u u') (hb : h b = some .free) : OLoc P o e h [b] [(b, .iter0)] (some (.ptr b 0 0 0)) := by
  intro H ι a w s Q hs h1 h2
  have hb' : s.h b = some .free := by rw [h2 b (by simp), hb]
  have hx' : look s.env x = some (.val (.map none)) := by rw [h1 x (by rw [ho]; simp [Op.operands]), hx]
  have hv := ((look_rel hs hx').val_inv).1
  obtain ⟨info, d, e1, e2, e3, e4, e5, e6⟩ := tyOf_spec (hT _ _ hi)
  have hd := tk_map (P := P) (d := d) (e3 ▸ hk)
  subst hd
  obtain ⟨u1, u2⟩ := hs.heap.upd (o' := .iter0) (r' := ⟨w.heap.size, 0, 0, 1⟩) (w' := w.alloc (.mapIter none 0 #[] 0)) hb' rfl (.inl rfl) (fun _ => .inl (Nat.le_refl _)) (fun rb hlt _ => heap_alloc_old w _ hlt) (by simp) rfl rfl
    ⟨rfl, rfl, by simp [Ent.solid], heap_alloc_new w _⟩
  have hrun : (execOp a.eval o).run P w = .ok (.value (.pointer (some ⟨w.heap.size, 0, none⟩))) (w.alloc (.mapIter none 0 #[] 0)) := by
    simp [execOp, ho, Instr.range, hv, run_underlying' e2]
  unfold Oper.wp
  rw [hrun]
  refine ⟨_, H, _, rfl, fun x ex => ?_, u1, u2⟩
  cases ex
  have := Rel.ptrL (H := H) (lput ι b ⟨w.heap.size, 0, 0, 1⟩) b 0 0 0 _ (lput_same _ _ _) rfl
  simpa using this
theorem q_next0 {x : Operand} {b : Nat} (ho : o.op = .next x false) (hx : look e x = some (.ptr b 0 0 0)) (hb : h b = some .iter0) : QLoc P o e h [b] (.tup [.bool false]) := by
  intro H ι a w s hs h1 h2
  have hb' : s.h b = some .iter0 := by rw [h2 b (by simp), hb]
  have hx' : look s.env x = some (.ptr b 0 0 0) := by rw [h1 x (by rw [ho]; simp [Op.operands]), hx]
  obtain ⟨r, r1, ⟨r2, r2n, r3, r4⟩, r5⟩ := hs.heap.obj b _ hb' rfl
  have hv : a.eval x = .pointer (some ⟨r.rb, 0, none⟩) := by
    have hv := look_rel hs hx'
    generalize a.eval x = v at hv
    cases hv with
    | ptrL _ _ _ _ _ r' e1 e2 => rw [r1] at e1; cases e1; simp
    | ptrS _ _ _ _ _ r' ad e1 e2 =>
      rw [r1] at e1; cases e1
      omega
  refine ⟨.tuple #[.bool false], .tup _ _ _ rfl (fun j x v h1 h2 => ?_), ?_⟩
  · cases j with
    | zero => simp at h1 h2; subst h1; subst h2; exact .bool _ _
    | succ j => simp at h1
  · have hg : (getObj r.rb).run P w = .ok (.mapIter none 0 #[] 0) w := by simp [getObj, Sem.run, r4]
    simp [execOp, ho, hv, Instr.next, hg]
end
def unkv (K : IntKind) : List (AV × AV) → Option NMap
  | [] => some []
  | (.int K' z, v) :: r => match decide (K' = K), unkv K r with
    | true, some m => some ((z, v) :: m)
    | _, _ => none
  | _ :: _ => none
theorem unkv_spec {K : IntKind} : ∀ {l : List (AV × AV)} {m : NMap}, unkv K l = some m → l = kvs K m
  | [], m, h => by simp [unkv] at h; subst h; rfl
  | (k, v) :: r, m, h => by
    cases k with
    | int K' z =>
      unfold unkv at h
      split at h
      · rename_i m' h1 h2
        simp only [Option.some.injEq] at h
        subst h
        have := of_decide_eq_true h1
        subst this
        rw [unkv_spec h2]; rfl
      · cases h
    | _ => simp [unkv] at h
def intOf : TK → Option IntKind
  | .int K => some K
  | _ => none
theorem intOf_spec {k : TK} {K : IntKind} (h : intOf k = some K) : k = .int K := by
  cases k <;> simp [intOf] at h
  subst h; rfl
def mapTy (T : Nat → Option TyI) (t : Nat) : Option (IntKind × Nat) := match T t with
  | some i => match i.k with
    | .map kt et => match T kt with
      | some j => match intOf j.k with
        | some K => some (K, et)
        | none => none
      | none => none
    | _ => none
  | none => none
theorem mapTy_spec {T : Nat → Option TyI} {t : Nat} {K : IntKind} {et : Nat} (h : mapTy T t = some (K, et)) : ∃ i j kt, T t = some i ∧ i.k = .map kt et ∧ T kt = some j ∧ j.k = .int K := by
  unfold mapTy at h
  split at h
  · rename_i i hi
    split at h
    · rename_i kt et' hk
      split at h
      · rename_i j hj
        split at h
        · rename_i K' hK
          simp only [Option.some.injEq, Prod.mk.injEq] at h
          obtain ⟨rfl, rfl⟩ := h
          exact ⟨i, j, kt, hi, hk, hj, intOf_spec hK⟩
        · cases h
      · cases h
    · cases h
  · cases h
def isMapTy (T : Nat → Option TyI) (t : Nat) : Bool := match T t with
  | some i => match i.k with
    | .map _ _ => true
    | _ => false
  | none => false
theorem isMapTy_spec {T : Nat → Option TyI} {t : Nat} (h : isMapTy T t = true) : ∃ i k u, T t = some i ∧ i.k = .map k u := by
  unfold isMapTy at h
  split at h
  · rename_i i hi
    split at h
    · rename_i k u hk; exact ⟨i, k, u, hi, hk⟩
    · cases h
  · cases h
def zeroAt (P : Program) (et : Nat) : Option AV := match (P.info? et).bind (·.zero) with
  | some zv => cellAV zv
  | none => none
theorem zeroAt_spec {P : Program} {et : Nat} {z0 : AV} (h : zeroAt P et = some z0) : ∃ zv, (P.info? et).bind (·.zero) = some zv ∧ cellAV zv = some z0 := by
  unfold zeroAt at h
  split at h
  · rename_i zv hz; exact ⟨zv, hz, h⟩
  · cases h
def qEv3 (P : Program) (T : Nat → Option TyI) (o : Op) (e : AEnv) (h : AHeap) : Option (List Nat × AV) :=
  match o with
  | .next x false => match look e x with
    | some (.ptr b 0 0 0) => match h b with
      | some .iter0 => some ([b], .tup [.bool false])
      | _ => none
    | _ => none
  | .lookup t x y true => match look e x, look e y, mapTy T t with
    | some (.map b), some (.int K z), some (K', et) => match h b, zeroAt P et, decide (K' = K) with
      | some (.map l), some z0, true => match unkv K l with
        | some m => some ([b], .tup [(kget z m).getD z0, .bool (kget z m).isSome])
        | none => none
      | _, _, _ => none
    | _, _, _ => none
  | .binOp .eql t x y _ => match look e x, look e y, T t with
    | some (.bool a), some (.bool b), some i => match i.k with
      | .bool => some ([], .bool (a == b))
      | _ => none
    | some (.agg xs), some (.agg ys), some i => match i.k, eqPlain P t, eqCells xs ys with
      | .struct fs, true, some r => match cellKinds T fs xs, cellKinds T fs ys with
        | true, true => some ([], .bool r)
        | _, _ => none
      | _, _, _ => none
    | _, _, _ => none
  | .binOp .neq t x y _ => match look e x, look e y, T t with
    | some (.bool a), some (.bool b), some i => match i.k with
      | .bool => some ([], .bool (a != b))
      | _ => none
    | some (.agg xs), some (.agg ys), some i => match i.k, eqPlain P t, eqCells xs ys with
      | .struct fs, true, some r => match cellKinds T fs xs, cellKinds T fs ys with
        | true, true => some ([], .bool (!r))
        | _, _ => none
      | _, _, _ => none
    | _, _, _ => none
  | _ => none
section
variable {P : Program} {T : Nat → Option TyI} {o : Oper} {e : AEnv} {h : AHeap} {R : List Nat} {r : AV}
theorem qEv3_spec (hT : TOk P T) (hq : qEv3 P T o.op e h = some (R, r)) : QLoc P o e h R r := by
  unfold qEv3 at hq
  split at hq
  · rename_i x ho
    split at hq
    · rename_i b hx
      split at hq
      · rename_i hb
        simp only [Option.some.injEq, Prod.mk.injEq] at hq
        obtain ⟨rfl, rfl⟩ := hq
        exact q_next0 ho hx hb
      · cases hq
    · cases hq
  · rename_i t x y ho
    split at hq
    · rename_i b K z K' et hx hy ht
      split at hq
      · rename_i l z0 hb hz hK
        split at hq
        · rename_i m hm
          simp only [Option.some.injEq, Prod.mk.injEq] at hq
          obtain ⟨rfl, rfl⟩ := hq
          have hK := of_decide_eq_true hK
          subst hK
          obtain ⟨i, j, kt, a1, a2, a3, a4⟩ := mapTy_spec ht
          obtain ⟨zv, z1, z2⟩ := zeroAt_spec hz
          exact q_lookupOk hT ho hx hy (by rw [hb, unkv_spec hm]) a1 a2 a3 a4 z1 z2
        · cases hq
      · cases hq
    · cases hq
  · rename_i t x y t' ho
    split at hq
    · rename_i a b i hx hy hi
      split at hq
      · rename_i hk
        simp only [Option.some.injEq, Prod.mk.injEq] at hq
        obtain ⟨rfl, rfl⟩ := hq
        exact q_boolEq hT false ho hx hy hi hk
      · cases hq
    · rename_i xs ys i hx hy hi
      split at hq
      · rename_i fs r' hk hp hr
        split at hq
        · rename_i h1 h2
          simp only [Option.some.injEq, Prod.mk.injEq] at hq
          obtain ⟨rfl, rfl⟩ := hq
          exact q_eqStruct hT false ho hx hy hp hi hk h1 h2 hr
        · cases hq
      · cases hq
    · cases hq
  · rename_i t x y t' ho
    split at hq
    · rename_i a b i hx hy hi
      split at hq
      · rename_i hk
        simp only [Option.some.injEq, Prod.mk.injEq] at hq
        obtain ⟨rfl, rfl⟩ := hq
        exact q_boolEq hT true ho hx hy hi hk
      · cases hq
    · rename_i xs ys i hx hy hi
      split at hq
      · rename_i fs r' hk hp hr
        split at hq
        · rename_i h1 h2
          simp only [Option.some.injEq, Prod.mk.injEq] at hq
          obtain ⟨rfl, rfl⟩ := hq
          exact q_eqStruct hT true ho hx hy hp hi hk h1 h2 hr
        · cases hq
      · cases hq
    · cases hq
  · cases hq
end
def xEv3 (T : Nat → Option TyI) (dst : Option Nat) (o : Op) (e : AEnv) (h : AHeap) (k : Nat) : Option XRes :=
  match o with
  | .range t x => match look e x, isFree h k, isMapTy T t with
    | some (.val (.map none)), true, true => some ([k], [(k, .iter0)], some (.ptr k 0 0 0), k + 1)
    | _, _, _ => none
  | .makeMap t none => match mapTy T t, isFree h k with
    | some (K, _), true => some ([k], [(k, .map (kvs K []))], some (.map k), k + 1)
    | _, _ => none
  | .mapUpdate t x y u => match dst, look e x, look e y, look e u, mapTy T t with
    | none, some (.map b), some (.int K z), some q, some (K', _) => match h b, q.isPure, decide (K' = K) with
      | some (.map l), true, true => match unkv K l with
        | some m => some ([b], [(b, .map (kvs K (kset z q m)))], none, k)
        | none => none
      | _, _, _ => none
    | _, _, _, _, _ => none
  | .call ⟨.builtin .delete, args, tys⟩ => match dst, args.toList, tys.toList with
    | none, [x, y], [t, _] => match look e x, look e y, mapTy T t with
      | some (.map b), some (.int K z), some (K', _) => match h b, decide (K' = K) with
        | some (.map l), true => match unkv K l with
          | some m => some ([b], [(b, .map (kvs K (kdel z m)))], none, k)
          | none => none
        | _, _ => none
      | _, _, _ => none
    | _, _, _ => none
  | _ => none
section
variable {P : Program} {T : Nat → Option TyI} {o : Oper} {e : AEnv} {h : AHeap}
theorem xEv3_spec (hT : TOk P T) {k k' : Nat} {R : List Nat} {W : List (Nat × AObj)} {r : Option AV} (hv : xEv3 T o.dst o.op e h k = some (R, W, r, k')) : OLoc P o e h R W r := by
  unfold xEv3 at hv
  split at hv
  · rename_i t x ho
    split at hv
    · rename_i hx hf hm
      simp only [Option.some.injEq, Prod.mk.injEq] at hv
      obtain ⟨rfl, rfl, rfl, rfl⟩ := hv
      obtain ⟨i, kk, u, a1, a2⟩ := isMapTy_spec hm
      exact o_range0 hT k ho hx a1 a2 (isFree_spec hf)
    · cases hv
  · rename_i t ho
    split at hv
    · rename_i K et hm hf
      simp only [Option.some.injEq, Prod.mk.injEq] at hv
      obtain ⟨rfl, rfl, rfl, rfl⟩ := hv
      exact o_makeMap K k ho (isFree_spec hf)
    · cases hv
  · rename_i t x y u ho
    split at hv
    · rename_i b K z q K' et hd hx hy hu hm
      split at hv
      · rename_i l hb hp hK
        split at hv
        · rename_i m hl
          simp only [Option.some.injEq, Prod.mk.injEq] at hv
          obtain ⟨rfl, rfl, rfl, rfl⟩ := hv
          have hK := of_decide_eq_true hK
          subst hK
          obtain ⟨i, j, kt, a1, a2, a3, a4⟩ := mapTy_spec hm
          exact o_mapUpdate hT ho hd hx hy hu hp (by rw [hb, unkv_spec hl]) a1 a2 a3 a4
        · cases hv
      · cases hv
    · cases hv
  · rename_i args tys ho
    split at hv
    · rename_i x y t tk hd ha ht
      split at hv
      · rename_i b K z K' et hx hy hm
        split at hv
        · rename_i l hb hK
          split at hv
          · rename_i m hl
            simp only [Option.some.injEq, Prod.mk.injEq] at hv
            obtain ⟨rfl, rfl, rfl, rfl⟩ := hv
            have hK := of_decide_eq_true hK
            subst hK
            obtain ⟨i, j, kt, a1, a2, a3, a4⟩ := mapTy_spec hm
            exact o_delete hT (ho.trans (by rw [arr_two ha, arr_two ht])) hd hx hy (by rw [hb, unkv_spec hl]) a1 a2 a3 a4
          · cases hv
        · cases hv
      · cases hv
    · cases hv
  · cases hv
end
def unarr (K : IntKind) : List AV → Option (List Int)
  | [] => some []
  | .int K' z :: r => match decide (K' = K), unarr K r with
    | true, some l => some (z :: l)
    | _, _ => none
  | _ :: _ => none
theorem unarr_spec {K : IntKind} : ∀ {l : List AV} {z : List Int}, unarr K l = some z → l = arrAV K z
  | [], z, h => by simp [unarr] at h; subst h; rfl
  | x :: r, z, h => by
    cases x with
    | int K' n =>
      unfold unarr at h
      split at h
      · rename_i l h1 h2
        simp only [Option.some.injEq] at h
        subst h
        have := of_decide_eq_true h1
        subst this
        rw [unarr_spec h2]; rfl
      · cases h
    | _ => simp [unarr] at h
def unkvA (K : IntKind) (n : Nat) : List (AV × AV) → Option AMap
  | [] => some []
  | (.agg ks, v) :: r => match unarr K ks, unkvA K n r with
    | some z, some m => match Nat.beq z.length n with
      | true => some ((z, v) :: m)
      | false => none
    | _, _ => none
  | _ :: _ => none
theorem unkvA_spec {K : IntKind} {n : Nat} : ∀ {l : List (AV × AV)} {m : AMap}, unkvA K n l = some m → l = kvsA K m ∧ ∀ p ∈ m, p.1.length = n
  | [], m, h => by simp [unkvA] at h; subst h; exact ⟨rfl, fun p hp => by cases hp⟩
  | (k, v) :: r, m, h => by
    cases k with
    | agg ks =>
      unfold unkvA at h
      split at h
      · rename_i z m' h1 h2
        split at h
        · rename_i h3
          simp only [Option.some.injEq] at h
          subst h
          obtain ⟨a1, a2⟩ := unkvA_spec h2
          refine ⟨by rw [a1, unarr_spec h1]; rfl, fun p hp => ?_⟩
          rcases List.mem_cons.1 hp with rfl | hp
          · exact Nat.eq_of_beq_eq_true h3
          · exact a2 p hp
        · cases h
      · cases h
    | _ => simp [unkvA] at h
def arrTy (P : Program) (T : Nat → Option TyI) (t : Nat) : Option (Nat × IntKind) := match T t with
  | some i => match i.k with
    | .array n e0 => match T e0, Nat.beq (P.cellsOf e0) 1 with
      | some j, true => match intOf j.k with
        | some K => some (n, K)
        | none => none
      | _, _ => none
    | _ => none
  | none => none
theorem arrTy_spec {P : Program} {T : Nat → Option TyI} {t n : Nat} {K : IntKind} (h : arrTy P T t = some (n, K)) : ∃ i e0 j, T t = some i ∧ i.k = .array n e0 ∧ T e0 = some j ∧ j.k = .int K ∧ P.cellsOf e0 = 1 := by
  unfold arrTy at h
  split at h
  · rename_i i hi
    split at h
    · rename_i n' e0 hk
      split at h
      · rename_i j hj hc
        split at h
        · rename_i K' hK
          simp only [Option.some.injEq, Prod.mk.injEq] at h
          obtain ⟨rfl, rfl⟩ := h
          exact ⟨i, e0, j, hi, hk, hj, intOf_spec hK, Nat.eq_of_beq_eq_true hc⟩
        · cases h
      · cases h
    · cases h
  · cases h
def mapTyA (P : Program) (T : Nat → Option TyI) (t : Nat) : Option (Nat × IntKind × Nat) := match T t with
  | some i => match i.k with
    | .map kt et => match arrTy P T kt with
      | some (n, K) => some (n, K, et)
      | none => none
    | _ => none
  | none => none
theorem mapTyA_spec {P : Program} {T : Nat → Option TyI} {t n et : Nat} {K : IntKind} (h : mapTyA P T t = some (n, K, et)) : ∃ i kt, T t = some i ∧ i.k = .map kt et ∧ arrTy P T kt = some (n, K) := by
  unfold mapTyA at h
  split at h
  · rename_i i hi
    split at h
    · rename_i kt et' hk
      split at h
      · rename_i n' K' ha
        simp only [Option.some.injEq, Prod.mk.injEq] at h
        obtain ⟨rfl, rfl, rfl⟩ := h
        exact ⟨i, kt, hi, hk, ha⟩
      · cases h
    · cases h
  · cases h
section
variable {P : Program} {T : Nat → Option TyI} {o : Oper} {e : AEnv} {h : AHeap}
theorem q_sliceEnd (hT : TOk P T) {t : TypeId} {x y : Operand} {b n off len : Nat} {i j : TyI} {u : Nat} {k : IntKind} (ho : o.op = .slice t x (some y) none none) (hx : look e x = some (.ref b n off len)) (hy : look e y = some (.int k (len : Int))) (ht : T t = some i) (hk : i.k = .slice u) (hj : T u = some j)
    {p : Bool} {sz : Nat} {es : List (List AV)} (hb : h b = some (.row p sz es)) (hn : n = es.length) (h0 : 0 < es.length) : QLoc P o e h [b] (.lst false []) := by
  intro H ι a w s hs g1 g2
  have hx' : look s.env x = some (.ref b n off len) := by rw [g1 x (by rw [ho]; simp [Op.operands]), hx]
  have hy' : look s.env y = some (.int k (len : Int)) := by rw [g1 y (by rw [ho]; simp [Op.operands]), hy]
  have hb' : s.h b = some (.row p sz es) := by rw [g2 b (by simp), hb]
  obtain ⟨info, d, e1, e2, e3, e4, e5, e6⟩ := tyOf_spec (hT _ _ ht)
  obtain ⟨info', d', e1', e2', e3', e4', e5', e6'⟩ := tyOf_spec (hT _ _ hj)
  have hd := tk_slice (P := P) (d := d) (e3 ▸ hk)
  subst hd
  have hvx := look_rel hs hx'
  have hvy := (look_rel hs hy').int_inv
  generalize hva : a.eval x = va at hvx
  obtain ⟨r, r1, ⟨o1, o2, o3, o4, o5, o6⟩, _⟩ := hs.heap.obj b _ hb' rfl
  have hcs : r.csz ≠ 0 := by
    have : 0 < es.length * sz := Nat.mul_pos h0 o2
    omega
  obtain ⟨hle, cap, rfl, c1, c2, c3⟩ := Rel.ref_live hvx r1 (by rw [hn, o3]) hcs
  refine ⟨.slice (if cap - len = 0 then (some ⟨r.rb, off * r.sz, none⟩) else (some ⟨r.rb, off * r.sz, none⟩ : Option Addr).map (·.add (len * j.size))) (len - len) (cap - len), ?_, ?_⟩
  · rw [Nat.sub_self]
    exact .lst0 _ _ _ _ (fun h => by cases h) (by omega) (fun hh => by split at hh <;> cases hh) trivial
  · simp only [execOp, ho, hva, hvy, Instr.sliceAt, Instr.slice, Option.map_none, Option.map_some, Sem.run_bind, run_underlying' e2, Result.andThen_ok, run_isz e1', e4', Sem.run_pure]
    have hce : (cap = len) = (cap - len = 0) := propext (by omega)
    simp [Instr.sliceBounds, Instr.sliceBound, asIntOf, c1, hce]
theorem q_bytesRow (hT : TOk P T) {t u : TypeId} {x : Operand} {l : List UInt8} {i j k : TyI} {v : Nat} {b n : Nat} {p : Bool} (ho : o.op = .convert t u x) (hx : look e x = some (.ref b n 0 n)) (hb : h b = some (.row p 1 (byteCells l))) (hn : n = l.length) (h0 : 0 < l.length)
    (hi : T t = some i) (hik : i.k = .slice v) (hv : T v = some k) (hk : k.k = .int .u8) (hj : T u = some j) (hjk : j.k = .string) : QLoc P o e h [b] (.str ⟨l.toArray⟩) := by
  intro H ι a w s hs g1 g2
  have hx' : look s.env x = some (.ref b n 0 n) := by rw [g1 x (by rw [ho]; simp [Op.operands]), hx]
  have hb' : s.h b = some (.row p 1 (byteCells l)) := by rw [g2 b (by simp), hb]
  obtain ⟨info, d, e1, e2, e3, e4, e5, e6⟩ := tyOf_spec (hT _ _ hi)
  obtain ⟨info', d', e1', e2', e3', e4', e5', e6'⟩ := tyOf_spec (hT _ _ hj)
  obtain ⟨info'', d'', e1'', e2'', e3'', e4'', e5'', e6''⟩ := tyOf_spec (hT _ _ hv)
  have hd := tk_slice (P := P) (d := d) (e3 ▸ hik)
  subst hd
  have hd := tk_string (P := P) (d := d') (e3' ▸ hjk)
  subst hd
  have hd := tk_int (P := P) (d := d'') (e3'' ▸ hk)
  subst hd
  have hvx := look_rel hs hx'
  generalize hva : a.eval x = va at hvx
  obtain ⟨r, r1, ⟨o1, o2, o3, o4, o5, o6⟩, _⟩ := hs.heap.obj b _ hb' rfl
  have hlen : (byteCells l).length = l.length := by simp [byteCells]
  have hcs : r.csz ≠ 0 := by omega
  obtain ⟨hle, cap, rfl, c1, c2, c3⟩ := Rel.ref_live hvx r1 (by omega) hcs
  obtain ⟨c, TT, d1, d2, d3, d4⟩ := o6 hcs
  refine ⟨_, .str _ _, ?_⟩
  simp only [execOp, ho, hva, Sem.run_bind]
  have key : (Go.convert t u (.slice (some ⟨r.rb, 0 * r.sz, none⟩) n cap)).run P w = .ok (.string ⟨l.toArray⟩) w := by
    rw [run_convert_bytes_string w t u v (some ⟨r.rb, 0 * r.sz, none⟩) n cap e2 e2'' e2']
    rw [run_bytesToString w _ _ cap (l.map (fun b : UInt8 => ((b.toNat : Nat) : Int))) ?_, push_all]
    have hld := run_loadCells_list (P := P) (w := w) ⟨r.rb, 0 * r.sz, none⟩ (l.map (fun b : UInt8 => Value.int .u8 b.toNat)) (fun j y hj => by
      rw [List.getElem?_map] at hj
      cases hlj : l[j]? with
      | none => rw [hlj] at hj; cases hj
      | some m =>
        rw [hlj] at hj
        cases hj
        have hbc : (byteCells l)[j]? = some [AV.int .u8 m.toNat] := by simp [byteCells, hlj]
        obtain ⟨v', q1, q2, q3⟩ := d4 j _ 0 _ hbc rfl
        rw [add_mk, d1.cell, Nat.zero_mul, Nat.zero_add]
        rw [q2.int_inv, Nat.mul_one, Nat.add_zero] at q1
        exact q1)
    rw [hn]
    simpa [List.map_map, Function.comp_def] using hld
  simp only [key, Result.andThen_ok, Sem.run_pure]
end
def unbytes : List (List AV) → Option (List UInt8)
  | [] => some []
  | [.int .u8 z] :: r => match decide (((UInt8.ofNat z.toNat).toNat : Int) = z), unbytes r with
    | true, some l => some (UInt8.ofNat z.toNat :: l)
    | _, _ => none
  | _ :: _ => none
theorem unbytes_spec : ∀ {es : List (List AV)} {l : List UInt8}, unbytes es = some l → es = byteCells l
  | [], l, h => by simp [unbytes] at h; subst h; rfl
  | cs :: r, l, h => by
    unfold unbytes at h
    split at h
    · rename_i he; cases he
    · rename_i z r' he
      cases he
      split at h
      · rename_i l' h1 h2
        simp only [Option.some.injEq] at h
        subst h
        have h1 := of_decide_eq_true h1
        have := unbytes_spec h2
        rw [this]
        simp only [byteCells, List.map_cons, h1]
      · cases h
    · cases h
def qEv4 (P : Program) (T : Nat → Option TyI) (o : Op) (e : AEnv) (h : AHeap) : Option (List Nat × AV) :=
  match o with
  | .lookup t x y true => match look e x, look e y, mapTyA P T t with
    | some (.map b), some (.agg ks), some (n, K, et) => match h b, zeroAt P et, unarr K ks with
      | some (.map l), some z0, some z => match unkvA K n l, Nat.beq z.length n with
        | some m, true => some ([b], .tup [(aget z m).getD z0, .bool (aget z m).isSome])
        | _, _ => none
      | _, _, _ => none
    | _, _, _ => none
  | .build t parts => match lookParts e parts.toList, T t with
    | some ps, some i => match i.k with
      | .array len u => match T u with
        | some j => match zeroOk i, partsFit T (arrFs len j.size u) ps, partCells (arrFs len j.size u) ps i.zero with
          | true, true, some r => some ([], .agg r)
          | _, _, _ => none
        | none => none
      | _ => none
    | _, _ => none
  | .binOp .eql t x y _ => match look e x, look e y, arrTy P T t with
    | some (.agg xs), some (.agg ys), some (n, K) => match unarr K xs, unarr K ys, P.eqGuardType P.depth t with
      | some l1, some l2, false => match Nat.beq l1.length n, Nat.beq l2.length n with
        | true, true => some ([], .bool (decide (l1 = l2)))
        | _, _ => none
      | _, _, _ => none
    | _, _, _ => none
  | .binOp .neq t x y _ => match look e x, look e y, arrTy P T t with
    | some (.agg xs), some (.agg ys), some (n, K) => match unarr K xs, unarr K ys, P.eqGuardType P.depth t with
      | some l1, some l2, false => match Nat.beq l1.length n, Nat.beq l2.length n with
        | true, true => some ([], .bool (!decide (l1 = l2)))
        | _, _ => none
      | _, _, _ => none
    | _, _, _ => none
  | .slice t x (some y) none none => match look e x, look e y, elemTy T t with
    | some (.ref b n off len), some (.int k z), some j => match h b, decide (z = (len : Int)) with
      | some (.row p sz es), true => match Nat.beq n es.length, Nat.blt 0 es.length with
        | true, true => some ([b], .lst false [])
        | _, _ => none
      | _, _ => none
    | some (.lst ex es), some (.int k z), some j => match decide (0 ≤ z), decide (z.toNat ≤ es.length), es.all (fun cs => Nat.beq cs.length j.size) with
      | true, true, true => some ([], .lst (ex && Nat.beq es.length es.length) ((es.take es.length).drop z.toNat))
      | _, _, _ => none
    | _, _, _ => none
  | .slice t x none (some y) (some y') => match look e x, look e y, look e y', elemTy T t with
    | some (.lst ex es), some (.int k z), some (.int k' z'), some j => match decide (z = (es.length : Int)), decide (z' = (es.length : Int)) with
      | true, true => some ([], .lst true es)
      | _, _ => none
    | _, _, _, _ => none
  | .convert t u x => match look e x, elemTy T t, T u with
    | some (.ref b n 0 m), some k, some j => match h b, intOf k.k, j.k with
      | some (.row p 1 es), some .u8, .string => match unbytes es with
        | some l => match Nat.beq n m, Nat.beq n l.length, Nat.blt 0 l.length with
          | true, true, true => some ([b], .str ⟨l.toArray⟩)
          | _, _, _ => none
        | none => none
      | _, _, _ => none
    | _, _, _ => none
  | _ => none
section
variable {P : Program} {T : Nat → Option TyI} {o : Oper} {e : AEnv} {h : AHeap} {R : List Nat} {r : AV}
theorem qEv4_spec (hT : TOk P T) (hq : qEv4 P T o.op e h = some (R, r)) : QLoc P o e h R r := by
  unfold qEv4 at hq
  split at hq
  · rename_i t x y ho
    split at hq
    · rename_i b ks n K et hx hy ht
      split at hq
      · rename_i l z0 z hb hz hks
        split at hq
        · rename_i m hm hzn
          simp only [Option.some.injEq, Prod.mk.injEq] at hq
          obtain ⟨rfl, rfl⟩ := hq
          obtain ⟨i, kt, a1, a2, a3⟩ := mapTyA_spec ht
          obtain ⟨j, e0, j0, b1, b2, b3, b4, b5⟩ := arrTy_spec a3
          obtain ⟨m1, m2⟩ := unkvA_spec hm
          obtain ⟨zv, z1, z2⟩ := zeroAt_spec hz
          exact q_lookupOkA hT ho hx (by rw [hy, unarr_spec hks]) (by rw [hb, m1]) a1 a2 b1 b2 b3 b4 b5 (Nat.eq_of_beq_eq_true hzn) m2 z1 z2
        · cases hq
      · cases hq
    · cases hq
  · rename_i t parts ho
    split at hq
    · rename_i ps i hp hi
      split at hq
      · rename_i len u hk
        split at hq
        · rename_i j hj
          split at hq
          · rename_i r' hz hf hr
            simp only [Option.some.injEq, Prod.mk.injEq] at hq
            obtain ⟨rfl, rfl⟩ := hq
            obtain ⟨z1, z2, z3⟩ := zeroOk_spec hz
            exact q_build_arr hT ho hp hi hk hj z1 z2 hf hr
          · cases hq
        · cases hq
      · cases hq
    · cases hq
  · rename_i t x y t' ho
    split at hq
    · rename_i xs ys n K hx hy ha
      split at hq
      · rename_i l1 l2 h1 h2 hg
        split at hq
        · rename_i h3 h4
          simp only [Option.some.injEq, Prod.mk.injEq] at hq
          obtain ⟨rfl, rfl⟩ := hq
          obtain ⟨j, e0, j0, b1, b2, b3, b4, b5⟩ := arrTy_spec ha
          exact q_eqInts hT false ho (by rw [hx, unarr_spec h1]) (by rw [hy, unarr_spec h2]) hg b1 b2 b3 b4 (Nat.eq_of_beq_eq_true h3) (Nat.eq_of_beq_eq_true h4) b5
        · cases hq
      · cases hq
    · cases hq
  · rename_i t x y t' ho
    split at hq
    · rename_i xs ys n K hx hy ha
      split at hq
      · rename_i l1 l2 h1 h2 hg
        split at hq
        · rename_i h3 h4
          simp only [Option.some.injEq, Prod.mk.injEq] at hq
          obtain ⟨rfl, rfl⟩ := hq
          obtain ⟨j, e0, j0, b1, b2, b3, b4, b5⟩ := arrTy_spec ha
          exact q_eqInts hT true ho (by rw [hx, unarr_spec h1]) (by rw [hy, unarr_spec h2]) hg b1 b2 b3 b4 (Nat.eq_of_beq_eq_true h3) (Nat.eq_of_beq_eq_true h4) b5
        · cases hq
      · cases hq
    · cases hq
  · rename_i t x y ho
    split at hq
    · rename_i b n off len k z j hx hy hj
      split at hq
      · rename_i p sz es hb hz
        split at hq
        · rename_i h1 h2
          simp only [Option.some.injEq, Prod.mk.injEq] at hq
          obtain ⟨rfl, rfl⟩ := hq
          obtain ⟨i, u, a1, a2, a3⟩ := elemTy_spec hj
          exact q_sliceEnd hT ho hx (by rw [hy, of_decide_eq_true hz]) a1 a2 a3 hb (Nat.eq_of_beq_eq_true h1) (by simpa [Nat.blt_eq] using h2)
        · cases hq
      · cases hq
    · rename_i ex es k z j hx hy hj
      split at hq
      · rename_i h0 hz h1
        simp only [Option.some.injEq, Prod.mk.injEq] at hq
        obtain ⟨rfl, rfl⟩ := hq
        obtain ⟨i, u, a1, a2, a3⟩ := elemTy_spec hj
        exact q_slice_lst hT z.toNat es.length ho hx a1 a2 a3 ⟨k, by rw [hy, Int.toNat_of_nonneg (of_decide_eq_true h0)]⟩ rfl (of_decide_eq_true hz) (Nat.le_refl _) (fun cs hc => Nat.eq_of_beq_eq_true (List.all_eq_true.1 h1 cs hc))
      · cases hq
    · cases hq
  · rename_i t x y y' ho
    split at hq
    · rename_i ex es k z k' z' j hx hy hy' hj
      split at hq
      · rename_i h1 h2
        simp only [Option.some.injEq, Prod.mk.injEq] at hq
        obtain ⟨rfl, rfl⟩ := hq
        obtain ⟨i, u, a1, a2, a3⟩ := elemTy_spec hj
        exact q_slice3 hT ho hx (by rw [hy, of_decide_eq_true h1]) (by rw [hy', of_decide_eq_true h2]) a1 a2 a3
      · cases hq
    · cases hq
  · rename_i t u x ho
    split at hq
    · rename_i b n m k j hx hk hj
      split at hq
      · rename_i p es hb hku hjk
        split at hq
        · rename_i l hl
          split at hq
          · rename_i h1 h2 h3
            simp only [Option.some.injEq, Prod.mk.injEq] at hq
            obtain ⟨rfl, rfl⟩ := hq
            obtain ⟨i, v, a1, a2, a3⟩ := elemTy_spec hk
            have h1 := Nat.eq_of_beq_eq_true h1
            subst h1
            exact q_bytesRow hT ho hx (by rw [hb, unbytes_spec hl]) (Nat.eq_of_beq_eq_true h2) (by simpa [Nat.blt_eq] using h3) a1 a2 a3 (intOf_spec hku) hj hjk
          · cases hq
        · cases hq
      · cases hq
    · cases hq
  · cases hq
end
def xEv4 (P : Program) (T : Nat → Option TyI) (dst : Option Nat) (o : Op) (e : AEnv) (h : AHeap) (k : Nat) : Option XRes :=
  match o with
  | .makeMap t none => match isFree h k with
    | true => some ([k], [(k, .map (kvs .i64 []))], some (.map k), k + 1)
    | false => none
  | .mapUpdate t x y u => match dst, look e x, look e y, look e u, mapTyA P T t with
    | none, some (.map b), some (.agg ks), some q, some (n, K, _) => match h b, q.isPure, unarr K ks with
      | some (.map l), true, some z => match unkvA K n l, Nat.beq z.length n with
        | some m, true => some ([b], [(b, .map (kvsA K (aset z q m)))], none, k)
        | _, _ => none
      | _, _, _ => none
    | _, _, _, _, _ => none
  | _ => none
theorem xEv4_spec {P : Program} {T : Nat → Option TyI} {o : Oper} {e : AEnv} {h : AHeap} (hT : TOk P T) {k k' : Nat} {R : List Nat} {W : List (Nat × AObj)} {r : Option AV} (hv : xEv4 P T o.dst o.op e h k = some (R, W, r, k')) : OLoc P o e h R W r := by
  unfold xEv4 at hv
  split at hv
  · rename_i t ho
    split at hv
    · rename_i hf
      simp only [Option.some.injEq, Prod.mk.injEq] at hv
      obtain ⟨rfl, rfl, rfl, rfl⟩ := hv
      exact o_makeMap .i64 k ho (isFree_spec hf)
    · cases hv
  · rename_i t x y u ho
    split at hv
    · rename_i b ks q n K et hd hx hy hu ht
      split at hv
      · rename_i l z hb hp hks
        split at hv
        · rename_i m hm hzn
          simp only [Option.some.injEq, Prod.mk.injEq] at hv
          obtain ⟨rfl, rfl, rfl, rfl⟩ := hv
          obtain ⟨i, kt, a1, a2, a3⟩ := mapTyA_spec ht
          obtain ⟨j, e0, j0, b1, b2, b3, b4, b5⟩ := arrTy_spec a3
          obtain ⟨m1, m2⟩ := unkvA_spec hm
          exact o_mapUpdateA hT ho hd hx (by rw [hy, unarr_spec hks]) hu hp (by rw [hb, m1]) a1 a2 b1 b2 b3 b4 b5 (Nat.eq_of_beq_eq_true hzn) m2
        · cases hv
      · cases hv
    · cases hv
  · cases hv
def qAll (P : Program) (T : Nat → Option TyI) (o : Op) (e : AEnv) (h : AHeap) : Option (List Nat × AV) := match qEv T o e h with
  | some r => some r
  | none => match qEv2 P T o e h with
    | some r => some r
    | none => match qEv3 P T o e h with
      | some r => some r
      | none => qEv4 P T o e h
def xAll (P : Program) (T : Nat → Option TyI) (dst : Option Nat) (o : Op) (e : AEnv) (h : AHeap) (k : Nat) : Option XRes := match xEv T dst o e h k with
  | some r => some r
  | none => match xEv3 T dst o e h k with
    | some r => some r
    | none => xEv4 P T dst o e h k
section
variable {P : Program} {T : Nat → Option TyI} {o : Oper} {e : AEnv} {h : AHeap} {R : List Nat} {r : AV}
theorem qAll_spec (hT : TOk P T) (hq : qAll P T o.op e h = some (R, r)) : QLoc P o e h R r := by
  unfold qAll at hq
  split at hq
  · rename_i r' h1
    rw [Option.some.injEq] at hq
    subst hq
    exact qEv_spec hT h1
  · split at hq
    · rename_i r' h1
      rw [Option.some.injEq] at hq
      subst hq
      exact qEv2_spec hT h1
    · split at hq
      · rename_i r' h1
        rw [Option.some.injEq] at hq
        subst hq
        exact qEv3_spec hT h1
      · exact qEv4_spec hT hq
theorem xAll_spec (hT : TOk P T) {k k' : Nat} {W : List (Nat × AObj)} {r : Option AV} (hv : xAll P T o.dst o.op e h k = some (R, W, r, k')) : OLoc P o e h R W r := by
  unfold xAll at hv
  split at hv
  · rename_i r' h1
    rw [Option.some.injEq] at hv
    subst hv
    exact xEv_spec hT h1
  · split at hv
    · rename_i r' h1
      rw [Option.some.injEq] at hv
      subst hv
      exact xEv3_spec hT h1
    · exact xEv4_spec hT hv
end
def ofVal1 : Value → Option AV
  | .int k n => some (.int k n)
  | .bool b => some (.bool b)
  | .string s => some (.str s)
  | .func f a b => some (.val (.func f a b))
  | _ => none
def ofVals : List Value → Option (List AV)
  | [] => some []
  | v :: vs => match ofVal1 v, ofVals vs with
    | some x, some xs => some (x :: xs)
    | _, _ => none
def ofVal : Value → Option AV
  | .agg cs => match ofVals cs.toList with
    | some xs => some (.agg xs)
    | none => none
  | v => ofVal1 v
theorem ofVal1_rel {v : Value} {x : AV} (h : ofVal1 v = some x) (H : Know) : Rel H noLay x v := by
  cases v <;> simp [ofVal1] at h <;> subst h
  · exact .bool _ _
  · exact .int _ _ _
  · exact .str _ _
  · exact .val _ _ rfl
theorem ofVals_get : ∀ {l : List Value} {xs : List AV}, ofVals l = some xs → xs.length = l.length ∧ ∀ (j : Nat) (x : AV) (v : Value), xs[j]? = some x → l[j]? = some v → ofVal1 v = some x
  | [], xs, h => by simp [ofVals] at h; subst h; exact ⟨rfl, fun j x v h => by simp at h⟩
  | v :: vs, xs, h => by
    unfold ofVals at h
    split at h
    · rename_i x ys h1 h2
      simp at h; subst h
      obtain ⟨a1, a2⟩ := ofVals_get h2
      refine ⟨by simp [a1], fun j y u e1 e2 => ?_⟩
      cases j with
      | zero => simp at e1 e2; subst e1; subst e2; exact h1
      | succ j => exact a2 j y u (by simpa using e1) (by simpa using e2)
    · cases h
theorem ofVal_rel {v : Value} {x : AV} (h : ofVal v = some x) (H : Know) : Rel H noLay x v := by
  unfold ofVal at h
  split at h
  · rename_i cs
    split at h
    · rename_i xs e
      simp at h; subst h
      obtain ⟨a1, a2⟩ := ofVals_get e
      exact .agg _ _ _ (by simpa using a1) (fun j x v e1 e2 => ofVal1_rel (a2 j x v e1 (by simpa using e2)) H)
    · cases h
  · exact ofVal1_rel h H
def calleeEv (mt : Nat → String → Option Nat) (o : Op) (e : AEnv) : Option (Nat × List AV) :=
  match o with
  | .call ⟨.value x, args, _⟩ => match look e x, lookAll e args.toList with
    | some (.fn (.func f) fs cs), some xs => some (f, fs ++ xs ++ cs)
    | some (.val (.func (.func f) a b)), some xs => match a.toList, b.toList with
      | [], [] => some (f, xs)
      | _, _ => none
    | _, _ => none
  | .call ⟨.invoke recv name, args, _⟩ => match look e recv, lookAll e args.toList with
    | some (.val (.iface t v)), some xs => match mt t name, ofVal v with
      | some f, some x0 => some (f, x0 :: xs)
      | _, _ => none
    | _, _ => none
  | _ => none
def mtOk (P : Program) (mt : Nat → String → Option Nat) : Prop := ∀ t name f v w, mt t name = some f → (method (P.types.size + Made.depth) t v name).run P w = .ok (f, v) w
def fnEv (P : Program) (f : Nat) : Option (Func × Code) := match P.funcs[f]? with
  | some fn => match fn.body, fn.name == "runtime.NumGoroutine" with
    | some c, false => some (fn, c)
    | _, _ => none
  | none => none
theorem fnEv_spec {P : Program} {f : Nat} {fn : Func} {c : Code} (h : fnEv P f = some (fn, c)) : P.funcs[f]? = some fn ∧ fn.body = some c ∧ (fn.name == "runtime.NumGoroutine") = false := by
  unfold fnEv at h
  split at h
  · rename_i fn' hf
    split at h
    · rename_i c' hb hn
      simp only [Option.some.injEq, Prod.mk.injEq] at h
      obtain ⟨rfl, rfl⟩ := h
      exact ⟨hf, hb, hn⟩
    · cases h
  · cases h
section
variable {P : Program} {T : Nat → Option TyI} {o : Oper} {e : AEnv} {h : AHeap} {R : AV → AHeap → Prop}
theorem arr_nil {α : Type} {a : Array α} (h : a.toList = []) : a = #[] := Array.ext' h
theorem calleeEv_spec {mt : Nat → String → Option Nat} (hmt : mtOk P mt) {f : Nat} {xs : List AV} {fn : Func} (hc : calleeEv mt o.op e = some (f, xs)) (hf : P.funcs[f]? = some fn) (hnm : (fn.name == "runtime.NumGoroutine") = false) (hb : fn.body.isSome = true) (hcall : ACall P f xs h R) : OCallR P o e h R := by
  unfold calleeEv at hc
  split at hc
  · rename_i x args tys ho
    split at hc
    · rename_i f' fs cs ys hx hl
      simp only [Option.some.injEq, Prod.mk.injEq] at hc
      obtain ⟨rfl, rfl⟩ := hc
      exact o_inF ho hx hf hnm hb hl hcall
    · rename_i f' a b ys hx hl
      split at hc
      · rename_i ha hb'
        simp only [Option.some.injEq, Prod.mk.injEq] at hc
        obtain ⟨rfl, rfl⟩ := hc
        exact o_inV ho (by rw [hx, arr_nil ha, arr_nil hb']) hf hnm hb hl hcall
      · cases hc
    · cases hc
  · rename_i recv name args tys ho
    split at hc
    · rename_i t v ys hx hl
      split at hc
      · rename_i f' x0 hm hv
        simp only [Option.some.injEq, Prod.mk.injEq] at hc
        obtain ⟨rfl, rfl⟩ := hc
        exact o_inM ho hx (fun w => hmt t name f' v w hm) (ofVal_rel hv) hf hnm hb hl hcall
      · cases hc
    · cases hc
  · cases hc
theorem AOps.innW {ops : Array Oper} {rest : List Oper} {n : Nat} {K : AState → Prop} (hd : o.dst = none) (hg : guardIs ops o e = some true)
    (ho : OCallR P o e h (fun r hn => AOps P ops rest ⟨n, e, hn⟩ K)) : AOps P ops (o :: rest) ⟨n, e, h⟩ K := by
  intro H ι a w hs
  unfold wpList
  rw [guard_wanted hs hg]
  simp only [if_true]
  refine .inl (Oper.wp_mono (fun a' w' hx => ?_) (ho H ι a w n _ hs))
  obtain ⟨v, r, hn, H', ι', hr, rfl, h1, h2, h3⟩ := hx
  have hs' := hs.put (v := v) (d := o.dst) (r := none) h2 h3 (fun x ex => by cases ex) (fun t e => by rw [hd] at e; cases e)
  rw [hd] at hs' ⊢
  exact wpList_post (fun e a2 w2 hp => Post.step hs.heap h2 h3 hp) _ _ _ (hr H' ι' _ w' hs')
theorem AOps.kw {ops : Array Oper} {rest : List Oper} {n : Nat} {K : AState → Prop} (hd : o.dst = none) (hg : guardIs ops o e = some false) (hr : AOps P ops rest ⟨n, e, h⟩ K) : AOps P ops (o :: rest) ⟨n, e, h⟩ K := by
  have := AOps.skip (P := P) (ops := ops) (s := ⟨n, e, h⟩) (K := K) (o := o) (rest := rest) hg (fun t e => by rw [hd] at e; cases e)
  rw [hd] at this
  exact this hr
end
def frz1 (b m : Nat) (es : List (List AV)) : AV → AV
  | .ref b' n off len => bif Nat.beq b' b && Nat.beq n m then .lst false ((es.drop off).take len) else .ref b' n off len
  | x => x
def frz2 (b m : Nat) (es : List (List AV)) : AV → AV
  | .agg cs => .agg (cs.map (frz1 b m es))
  | x => frz1 b m es x
def frzV (b m : Nat) (es : List (List AV)) : AV → AV
  | .agg cs => .agg (cs.map (frz1 b m es))
  | .tup cs => .tup (cs.map (frz2 b m es))
  | x => frz1 b m es x
def frzO (b m : Nat) (es : List (List AV)) : AObj → AObj
  | .row false sz rs => .row false sz (rs.map fun cs => cs.map (frz1 b m es))
  | o => o
def frzE (b m : Nat) (es : List (List AV)) (e : AEnv) : AEnv := fun t => match e t with
  | some x => some (frzV b m es x)
  | none => none
def frzH (b m : Nat) (es : List (List AV)) (h : AHeap) : AHeap := fun c => bif Nat.beq c b then none else match h c with
  | some o => some (frzO b m es o)
  | none => none
theorem frz1_cell (b m : Nat) (es : List (List AV)) (x : AV) (h : x.cell1 = true) : (frz1 b m es x).cell1 = true := by
  cases x with
  | ref b' n off len =>
    show (bif Nat.beq b' b && Nat.beq n m then AV.lst false ((es.drop off).take len) else .ref b' n off len).cell1 = true
    cases Nat.beq b' b && Nat.beq n m <;> rfl
  | _ => exact h
section
variable {H H' : Know} {b m : Nat} {es : List (List AV)}
theorem frz1_rel (u3 : KLe H H') {ι : Lay} (u4 : ∀ (v : Value) (off len : Nat), Rel H ι (.ref b m off len) v → Rel H' ι (.lst false ((es.drop off).take len)) v) {x : AV} {v : Value} (h : Rel H ι x v) : Rel H' ι (frz1 b m es x) v := by
  cases x with
  | ref b' n off len =>
    show Rel H' ι (bif Nat.beq b' b && Nat.beq n m then AV.lst false ((es.drop off).take len) else .ref b' n off len) v
    cases e : Nat.beq b' b && Nat.beq n m with
    | false => exact h.mono u3 (LLe.refl _)
    | true =>
      rw [Bool.and_eq_true] at e
      have e1 := Nat.eq_of_beq_eq_true e.1
      have e2 := Nat.eq_of_beq_eq_true e.2
      subst e1; subst e2
      exact u4 v off len h
  | _ => exact h.mono u3 (LLe.refl _)
theorem frz2_rel (u3 : KLe H H') {ι : Lay} (u4 : ∀ (v : Value) (off len : Nat), Rel H ι (.ref b m off len) v → Rel H' ι (.lst false ((es.drop off).take len)) v) {x : AV} {v : Value} (h : Rel H ι x v) : Rel H' ι (frz2 b m es x) v := by
  cases x with
  | agg cs =>
    obtain ⟨us, rfl, hl, hr⟩ := h.agg_inv
    refine .agg _ _ us (by simpa using hl) fun j x v h1 h2 => ?_
    rw [List.getElem?_map] at h1
    cases e : cs[j]? with
    | none => rw [e] at h1; cases h1
    | some y => rw [e] at h1; cases h1; exact frz1_rel u3 u4 (hr j y v e h2)
  | _ => exact frz1_rel u3 u4 h
theorem frzV_rel (u3 : KLe H H') {ι : Lay} (u4 : ∀ (v : Value) (off len : Nat), Rel H ι (.ref b m off len) v → Rel H' ι (.lst false ((es.drop off).take len)) v) {x : AV} {v : Value} (h : Rel H ι x v) : Rel H' ι (frzV b m es x) v := by
  cases x with
  | agg cs => exact frz2_rel (x := .agg cs) u3 u4 h
  | tup cs =>
    obtain ⟨us, rfl, hl, hr⟩ := h.tup_inv
    refine .tup _ _ us (by simpa using hl) fun j x v h1 h2 => ?_
    rw [List.getElem?_map] at h1
    cases e : cs[j]? with
    | none => rw [e] at h1; cases h1
    | some y => rw [e] at h1; cases h1; exact frz2_rel u3 u4 (hr j y v e h2)
  | _ => exact frz1_rel u3 u4 h
end
theorem HeapRel.tight {H : Know} {ι : Lay} {h : AHeap} {w : World} {b sz : Nat} {es : List (List AV)} (hr : HeapRel H ι h w) (hb : h b = some (.row false sz es)) (hp : ∀ cs ∈ es, cs.all AV.isPure1 = true) : HeapRel H ι (hput h b (.row true sz es)) w := by
  have old : ∀ c o, hput h b (.row true sz es) c = some o → o.alive = true → ∃ o', h c = some o' ∧ o'.alive = true := fun c o h1 h2 => by
    by_cases hc : c = b
    · subst hc; exact ⟨_, hb, rfl⟩
    · rw [hput_ne _ _ hc] at h1; exact ⟨o, h1, h2⟩
  refine ⟨hr.know, fun c hc => ?_, fun c o h1 h2 => ?_, fun c c' o o' r r' h1 h2 h3 h4 h5 h6 h7 h8 h9 => ?_, hr.glob⟩
  · by_cases e : c = b
    · subst e; rw [hput_same] at hc; cases hc
    · rw [hput_ne _ _ e] at hc; exact hr.free c hc
  · by_cases e : c = b
    · subst e
      rw [hput_same] at h1
      cases h1
      obtain ⟨r, r1, ⟨o1, o2, o3, o4, o5, o6⟩, r3⟩ := hr.obj c _ hb rfl
      refine ⟨r, r1, ⟨o1, o2, o3, o4, o5, fun hs => ?_⟩, r3⟩
      obtain ⟨cc, T, c1, c2, c3, c4⟩ := o6 hs
      refine ⟨cc, T, c1, c2, c3, fun i cs j x e1 e2 => ?_⟩
      obtain ⟨v, v1, v2, v3⟩ := c4 i cs j x e1 e2
      exact ⟨v, v1, pure1_rel (List.all_eq_true.1 (hp cs (List.mem_of_getElem? e1)) x (List.mem_of_getElem? e2)) v2, v3⟩
    · rw [hput_ne _ _ e] at h1; exact hr.obj c o h1 h2
  · obtain ⟨p1, q1, q2⟩ := old c o h1 h2
    obtain ⟨p2, q3, q4⟩ := old c' o' h3 h4
    exact hr.inj c c' p1 p2 r r' q1 q2 q3 q4 h5 h6 h7 h8 h9
theorem Ghost.frz {n : Nat} {e : AEnv} {h : AHeap} {b sz : Nat} {es : List (List AV)} (hb : h b = some (.row false sz es)) (hp : ∀ cs ∈ es, cs.all AV.isPure1 = true) : Ghost ⟨n, e, h⟩ ⟨n, frzE b es.length es e, frzH b es.length es h⟩ := fun H ι a w hs => by
  have hr := hs.heap
  have ht := hr.tight hb hp
  obtain ⟨H', u1, u2, u3, u40⟩ := ht.freeze (hput_same h b _)
  have u4 := u40 ι
  have hst : Step H ι h w H ι (hput h b (.row true sz es)) w := ⟨Nat.le_refl _, rfl, rfl, fun _ _ _ => rfl, KLe.refl _, fun _ h => .inl h, LLe.refl _, fun _ _ => rfl, fun _ _ h _ => .inl h, fun c hc => by
    by_cases hcb : c = b
    · subst hcb; rw [hb] at hc; cases hc
    · rw [hput_ne _ _ hcb]; exact hc⟩
  have back : ∀ c o, frzH b es.length es h c = some o → ∃ o', h c = some o' ∧ o = frzO b es.length es o' ∧ c ≠ b := fun c o hc => by
    unfold frzH at hc
    cases ec : Nat.beq c b with
    | true => rw [ec] at hc; cases hc
    | false =>
      rw [ec] at hc
      simp only [cond_false] at hc
      split at hc
      · rename_i o' ho
        cases hc
        exact ⟨o', ho, rfl, fun hh => by subst hh; rw [Nat.beq_refl] at ec; cases ec⟩
      · cases hc
  have al : ∀ o, (frzO b es.length es o).alive = o.alive := fun o => by
    cases o with
    | row p sz rs => cases p <;> rfl
    | _ => rfl
  have hrm_eq : ∀ c, c ≠ b → hrm (hput h b (.row true sz es)) b c = h c := fun c hc => by rw [hrm_ne _ hc, hput_ne _ _ hc]
  have hheap : HeapRel H' ι (frzH b es.length es h) w := by
    refine ⟨u1.know, fun c hc => ?_, fun c o h1 h2 => ?_, fun c c' o o' r r' h1 h2 h3 h4 h5 h6 h7 h8 h9 => ?_, u1.glob⟩
    · obtain ⟨o', g1, g2, g3⟩ := back c _ hc
      cases o' with
      | free => exact hr.free c g1
      | row p sz rs => cases p <;> cases g2
      | _ => cases g2
    · obtain ⟨o', g1, rfl, g3⟩ := back c o h1
      rw [al] at h2
      obtain ⟨r, r1, r2, r3⟩ := u1.obj c o' (by rw [hrm_eq c g3]; exact g1) h2
      refine ⟨r, r1, ?_, r3⟩
      cases o' with
      | free => cases h2
      | map kvs => exact r2
      | iter0 => exact r2
      | row p sz' rs =>
        cases p with
        | true => exact r2
        | false =>
          obtain ⟨o1, o2, o3, o4, o5, o6⟩ := r2
          refine ⟨o1, o2, by simpa using o3, by simpa using o4, fun i cs hi => ?_, fun hsol => ?_⟩
          · rw [List.getElem?_map] at hi
            cases ei : rs[i]? with
            | none => rw [ei] at hi; cases hi
            | some ds => rw [ei] at hi; cases hi; simpa using o5 i ds ei
          · obtain ⟨cc, T, c1, c2, c3, c4⟩ := o6 hsol
            refine ⟨cc, T, c1, c2, ?_, fun i cs j x e1 e2 => ?_⟩
            · intro i cs hi
              rw [List.getElem?_map] at hi
              cases ei : rs[i]? with
              | none => rw [ei] at hi; cases hi
              | some ds => rw [ei] at hi; cases hi; simpa using o5 i ds ei
            · rw [List.getElem?_map] at e1
              cases ei : rs[i]? with
              | none => rw [ei] at e1; cases e1
              | some ds =>
                rw [ei] at e1; cases e1
                rw [List.getElem?_map] at e2
                cases ej : ds[j]? with
                | none => rw [ej] at e2; cases e2
                | some y =>
                  rw [ej] at e2; cases e2
                  obtain ⟨r0, s1, ⟨t1, t2, t3, t4, t5, t6⟩, s3⟩ := hr.obj c _ g1 rfl
                  rw [r1] at s1; cases s1
                  obtain ⟨cc', T', d1, d2, d3, d4⟩ := t6 hsol
                  obtain ⟨fr, f1, _⟩ := c1
                  obtain ⟨fr', f1', _⟩ := d1
                  rw [f1] at f1'
                  cases f1'
                  obtain ⟨v, v1, v2, v3⟩ := d4 i ds j y ei ej
                  exact ⟨v, v1, frz1_rel u3 u4 v2, frz1_cell _ _ _ _ v3⟩
    · obtain ⟨p1, g1, rfl, g3⟩ := back c o h1
      obtain ⟨p2, g4, rfl, g6⟩ := back c' o' h3
      rw [al] at h2 h4
      exact hr.inj c c' p1 p2 r r' g1 h2 g4 h4 h5 h6 h7 h8 h9
  refine ⟨H', ι, ⟨hs.n, hs.d, fun u y hy => ?_, hheap⟩, ?_⟩
  · simp only [frzE] at hy
    split at hy
    · rename_i x hx
      cases hy
      obtain ⟨v, h1, h2⟩ := hs.env u x hx
      exact ⟨v, h1, frzV_rel u3 u4 h2⟩
    · cases hy
  · have h2 := hst.trans hr ht u2
    exact ⟨h2.size, h2.os, h2.out, h2.keep, h2.kle, h2.knew, h2.lle, h2.lframe, h2.newrb, fun c hc => by
      show frzH b es.length es h c = none
      unfold frzH
      cases Nat.beq c b with
      | true => rfl
      | false => simp only [cond_false]; rw [show h c = none from hc]⟩
def refTo (b : Nat) : AV → Bool
  | .ref b' _ _ _ => Nat.beq b' b
  | _ => false
def refIn (b : Nat) : AV → Bool
  | .agg cs => cs.any (refTo b)
  | x => refTo b x
def frzL (n k : Nat) : List Nat → AEnv → AHeap → AEnv × AHeap
  | [], e, h => (e, h)
  | b :: l, e, h => match h b with
    | some (.row false sz es) => match es.all (fun cs => cs.all AV.isPure1), (List.range n).any (fun t => match e t with
        | some x => refIn b x
        | none => false) || (List.range k).any (fun c => match h c with
        | some (.row _ _ rs) => rs.any fun cs => cs.any (refTo b)
        | _ => false) with
      | true, true => frzL n k l (frzE b es.length es e) (frzH b es.length es h)
      | _, _ => frzL n k l e h
    | _ => frzL n k l e h
theorem frzL_ghost {n k : Nat} : ∀ (l : List Nat) {e e' : AEnv} {h h' : AHeap}, frzL n k l e h = (e', h') → Ghost ⟨n, e, h⟩ ⟨n, e', h'⟩
  | [], e, e', h, h', hx => by
    cases hx
    exact Ghost.of_sub (Sub.mk' (ESub.refl _) (HSub.refl _))
  | b :: l, e, e', h, h', hx => by
    unfold frzL at hx
    split at hx
    · rename_i sz es hb
      split at hx
      · rename_i hp _
        exact Ghost.trans (Ghost.frz hb fun cs hc => List.all_eq_true.1 hp cs hc) (frzL_ghost l hx)
      · exact frzL_ghost l hx
    · exact frzL_ghost l hx
def refs1 : AV → List Nat
  | .ref b _ _ _ => [b]
  | .ptr b _ _ _ => [b]
  | _ => []
def refsOf : AV → List Nat
  | .agg cs => cs.flatMap refs1
  | x => refs1 x
def reachL (h : AHeap) : Nat → List Nat → List Nat
  | 0, l => l
  | d + 1, l => reachL h d (l.flatMap fun b => match h b with
    | some (.row _ _ rs) => rs.flatMap fun cs => cs.flatMap refs1
    | _ => []) ++ l
def frzAt (fz : Nat → Nat → Option Nat) (n id k : Nat) (e : AEnv) (h : AHeap) : AEnv × AHeap := match fz n id with
  | some t => match e t with
    | some x => frzL n k (reachL h 3 (refsOf x)) e h
    | none => (e, h)
  | none => (e, h)
theorem frzAt_ghost {fz : Nat → Nat → Option Nat} {n id k : Nat} {e e' : AEnv} {h h' : AHeap} (hx : frzAt fz n id k e h = (e', h')) : Ghost ⟨n, e, h⟩ ⟨n, e', h'⟩ := by
  have h0 : Ghost ⟨n, e, h⟩ ⟨n, e, h⟩ := Ghost.of_sub (Sub.mk' (ESub.refl _) (HSub.refl _))
  unfold frzAt at hx
  split at hx
  · split at hx
    · exact frzL_ghost _ hx
    · cases hx
      exact h0
  · cases hx
    exact h0
abbrev XLog := List (Nat × List AV × AV)
def LogOk (P : Program) (lg : XLog) : Prop := ∀ p ∈ lg, APure P p.1 p.2.1 (fun r => r = p.2.2)
abbrev XCall := Nat → List AV → AHeap → Nat → XLog → Option (AV × AHeap × Nat × XLog)
def XCall.Ok (P : Program) (cl : XCall) : Prop := ∀ f xs h k lg r h' k' lg', cl f xs h k lg = some (r, h', k', lg') → (∀ p ∈ lg, p ∈ lg') ∧ (LogOk P lg' → ACall P f xs h (fun r1 h1 => r1 = r ∧ h1 = h'))
def ctEv (mt : Nat → String → Option Nat) (ct : Nat → Option (List AV → Option AV)) (o : Op) (e : AEnv) : Option (Nat × List AV × AV) :=
  match o with
  | .call ⟨.value (.func f), args, _⟩ => match ct f with
    | some q => match lookAll e args.toList with
      | some xs => match xs.all AV.isPure, q xs with
        | true, some r => some (f, xs, r)
        | _, _ => none
      | none => none
    | none => none
  | _ => none
def argRefs (e : AEnv) : List Operand → List Nat
  | [] => []
  | x :: l => (match look e x with | some y => refsOf y | none => []) ++ argRefs e l
def ctFz (ct : Nat → Option (List AV → Option AV)) (n k : Nat) (o : Op) (e : AEnv) (h : AHeap) : AEnv × AHeap :=
  match o with
  | .call ⟨.value (.func f), args, _⟩ => match ct f with
    | some _ => frzL n k (reachL h 3 (argRefs e args.toList)) e h
    | none => (e, h)
  | _ => (e, h)
theorem ctFz_ghost {ct : Nat → Option (List AV → Option AV)} {n k : Nat} {o : Op} {e e' : AEnv} {h h' : AHeap} (hx : ctFz ct n k o e h = (e', h')) : Ghost ⟨n, e, h⟩ ⟨n, e', h'⟩ := by
  have h0 : Ghost ⟨n, e, h⟩ ⟨n, e, h⟩ := Ghost.of_sub (Sub.mk' (ESub.refl _) (HSub.refl _))
  unfold ctFz at hx
  split at hx
  · split at hx
    · exact frzL_ghost _ hx
    · cases hx
      exact h0
  · cases hx
    exact h0
theorem AOps.ghostX {P : Program} {ops : Array Oper} {l : List Oper} {s s' : AState} {K : AState → Prop} (hg : Ghost s s') (h : AOps P ops l s' K) : AOps P ops l s K := fun H ι a w hs => by
  obtain ⟨H', ι', h1, h2⟩ := hg H ι a w hs
  have hpost : ∀ e a2 w2, Post H' ι' s'.h w (Then K fun _ _ => False) e a2 w2 → Post H ι s.h w (Then K fun _ _ => False) e a2 w2 := fun e a2 w2 hp => Post.step hs.heap h1.heap h2 hp
  have key : ∀ (l : List Oper) (a1 : Act) (w1 : World), wpList P ops (Post H' ι' s'.h w (Then K fun _ _ => False)) l a1 w1 → wpList P ops (Post H ι s.h w (Then K fun _ _ => False)) l a1 w1 := by
    intro l
    induction l with
    | nil => exact fun a1 w1 hp => hpost _ _ _ hp
    | cons o' l ih =>
      intro a1 w1 hp
      unfold wpList at hp ⊢
      by_cases hw : Region.wanted o' (yielded ops a1.tmps) = true
      · rw [if_pos hw] at hp ⊢
        rcases hp with hp | ⟨hp1, a2, w2, hp2⟩
        · refine .inl ?_
          have hp' := Oper.wp_mono (fun a2 w2 => ih a2 w2) hp
          clear hp
          unfold Oper.wp at hp' ⊢
          generalize (execOp a1.eval o').run P w1 = res at hp' ⊢
          cases res with
          | ok n w3 =>
            cases n <;> simp only [Oper.upon] at hp' ⊢ <;> first
              | exact hp'
              | exact Calls.mono hp' (fun e w4 he => by cases e <;> first | exact he | exact hpost _ _ _ he | (obtain ⟨a3, w5, hp3⟩ := he; exact ⟨a3, w5, hpost _ _ _ hp3⟩))
          | halt x w3 => cases x <;> simp only [Oper.upon] at hp' ⊢ <;> first | exact hpost _ _ _ hp' | exact hp'
        · exact .inr ⟨hp1, a2, w2, hpost _ _ _ hp2⟩
      · rw [if_neg hw] at hp ⊢
        exact ih _ _ hp
  exact key l a w (h H' ι' a w h1)
def xOps (P : Program) (T : Nat → Option TyI) (mt : Nat → String → Option Nat) (ct : Nat → Option (List AV → Option AV)) (cl : XCall) (ops : Array Oper) (n : Nat) : List Oper → AEnv → AHeap → Nat → XLog → Option (AEnv × AHeap × Nat × XLog)
  | [], e, h, k, lg => some (e, h, k, lg)
  | o :: l, e, h, k, lg => match guardIs ops o e with
    | some false => match o.dst with
      | some d => match Nat.blt d n with
        | true => xOps P T mt ct cl ops n l (eput e d (.tup [])) h k lg
        | false => none
      | none => xOps P T mt ct cl ops n l e h k lg
    | some true => match o.dst with
      | some d => match Nat.blt d n with
        | true => match qAll P T o.op e h with
          | some (_, r) => xOps P T mt ct cl ops n l (eput e d r) h k lg
          | none => match xAll P T o.dst o.op e h k with
            | some (_, W, some r, k') => xOps P T mt ct cl ops n l (eput e d r) (hputs h W) k' lg
            | some (_, _, none, _) => none
            | none => match ctFz ct n k o.op e h with
             | (e0, h0) => match guardIs ops o e0, ctEv mt ct o.op e0 with
              | some true, some (f, xs, r) => match fnEv P f with
                | some _ => xOps P T mt ct cl ops n l (eput e0 d r) h0 k ((f, xs, r) :: lg)
                | none => none
              | _, _ => match calleeEv mt o.op e with
                | some (f, xs) => match fnEv P f, cl f xs h k lg with
                  | some _, some (r, h', k', lg') => xOps P T mt ct cl ops n l (eput e d r) h' k' lg'
                  | _, _ => none
                | none => none
        | false => none
      | none => match xAll P T o.dst o.op e h k with
        | some (_, W, none, k') => xOps P T mt ct cl ops n l e (hputs h W) k' lg
        | some (_, _, some _, _) => none
        | none => match calleeEv mt o.op e with
          | some (f, xs) => match fnEv P f, cl f xs h k lg with
            | some _, some (r, h', k', lg') => xOps P T mt ct cl ops n l e h' k' lg'
            | _, _ => none
          | none => none
    | none => none
section
variable {P : Program} {T : Nat → Option TyI} {mt : Nat → String → Option Nat} {ct : Nat → Option (List AV → Option AV)} {cl : XCall} {ops : Array Oper} {n : Nat}
theorem OCallR.mono {o : Oper} {e : AEnv} {h : AHeap} {R R' : AV → AHeap → Prop} (hc : OCallR P o e h R) (hr : ∀ r h', R r h' → R' r h') : OCallR P o e h R' := fun H ι a w n Q hs =>
  Oper.wp_mono (fun a' w' ⟨v, r, h', H', ι', e1, e2⟩ => ⟨v, r, h', H', ι', hr _ _ e1, e2⟩) (hc H ι a w n Q hs)
theorem ctEv_spec {o : Oper} {e : AEnv} {h : AHeap} {f : Nat} {xs : List AV} {r : AV} {fn : Func} (hc : ctEv mt ct o.op e = some (f, xs, r)) (hf : P.funcs[f]? = some fn) (hnm : (fn.name == "runtime.NumGoroutine") = false) (hb : fn.body.isSome = true) (hp : APure P f xs (fun r' => r' = r)) : OLoc P o e h [] [] (some r) := by
  unfold ctEv at hc
  split at hc
  · rename_i f' args tys ho
    split at hc
    · rename_i q h1
      split at hc
      · rename_i ys h2
        split at hc
        · rename_i r' h3 h4
          simp only [Option.some.injEq, Prod.mk.injEq] at hc
          obtain ⟨rfl, rfl, rfl⟩ := hc
          exact o_pure ho hf hnm hb h2 h3 hp
        · cases hc
      · cases hc
    · cases hc
  · cases hc
theorem xOps_spec (hT : TOk P T) (hmt : mtOk P mt) (hcl : cl.Ok P) : ∀ (l : List Oper) {e e' : AEnv} {h h' : AHeap} {k k' : Nat} {lg lg' : XLog}, xOps P T mt ct cl ops n l e h k lg = some (e', h', k', lg') →
    (∀ p ∈ lg, p ∈ lg') ∧ (LogOk P lg' → ∀ K : AState → Prop, K ⟨n, e', h'⟩ → AOps P ops l ⟨n, e, h⟩ K)
  | [], e, e', h, h', k, k', lg, lg', hx => by
    simp only [xOps, Option.some.injEq, Prod.mk.injEq] at hx
    obtain ⟨rfl, rfl, rfl, rfl⟩ := hx
    exact ⟨fun p hp => hp, fun _ K hK => AOps.nil hK⟩
  | o :: l, e, e', h, h', k, k', lg, lg', hx => by
    unfold xOps at hx
    split at hx
    · rename_i hg
      split at hx
      · rename_i d hd
        split at hx
        · rename_i hb
          obtain ⟨a1, a2⟩ := xOps_spec hT hmt hcl l hx
          exact ⟨a1, fun hl K hK => AOps.k d hd hb hg (a2 hl K hK)⟩
        · cases hx
      · rename_i hd
        obtain ⟨a1, a2⟩ := xOps_spec hT hmt hcl l hx
        exact ⟨a1, fun hl K hK => AOps.kw hd hg (a2 hl K hK)⟩
    · rename_i hg
      split at hx
      · rename_i d hd
        split at hx
        · rename_i hb
          split at hx
          · rename_i R r hq
            obtain ⟨a1, a2⟩ := xOps_spec hT hmt hcl l hx
            exact ⟨a1, fun hl K hK => AOps.s d hd hb hg (qAll_spec hT hq) (a2 hl K hK)⟩
          · split at hx
            · rename_i R W r k1 hv
              obtain ⟨a1, a2⟩ := xOps_spec hT hmt hcl l hx
              exact ⟨a1, fun hl K hK => AOps.x d hd hb hg (xAll_spec hT hv) (a2 hl K hK)⟩
            · cases hx
            · generalize hfz : ctFz ct n k o.op e h = eh at hx
              obtain ⟨e0, h0⟩ := eh
              have hgst := ctFz_ghost hfz
              simp only at hx
              split at hx
              · rename_i f xs r hg0 hc
                split at hx
                · rename_i fc hfn
                  obtain ⟨fn, c⟩ := fc
                  obtain ⟨f1, f2, f3⟩ := fnEv_spec hfn
                  obtain ⟨a1, a2⟩ := xOps_spec hT hmt hcl l hx
                  refine ⟨fun p hp => a1 p (by simp [hp]), fun hl K hK => AOps.ghostX hgst (AOps.x d hd hb hg0 (ctEv_spec hc f1 f3 (by rw [f2]; rfl) (hl (f, xs, r) (a1 _ (by simp)))) (a2 hl K hK))⟩
                · cases hx
              · split at hx
                · rename_i f xs hc
                  split at hx
                  · rename_i fc r h1 k1 lg1 hfn hcall
                    obtain ⟨fn, c⟩ := fc
                    obtain ⟨f1, f2, f3⟩ := fnEv_spec hfn
                    obtain ⟨a1, a2⟩ := xOps_spec hT hmt hcl l hx
                    obtain ⟨b1, b2⟩ := hcl _ _ _ _ _ _ _ _ _ hcall
                    refine ⟨fun p hp => a1 p (b1 p hp), fun hl K hK => AOps.inn d hd hb hg (OCallR.mono (calleeEv_spec hmt hc f1 f3 (by rw [f2]; rfl) (b2 (fun p hp => hl p (a1 p hp)))) fun r' h'' hh => ?_)⟩
                    obtain ⟨rfl, rfl⟩ := hh
                    exact a2 hl K hK
                  · cases hx
                · cases hx
        · cases hx
      · rename_i hd
        split at hx
        · rename_i R W k1 hv
          obtain ⟨a1, a2⟩ := xOps_spec hT hmt hcl l hx
          exact ⟨a1, fun hl K hK => AOps.w hd hg (xAll_spec hT hv) (a2 hl K hK)⟩
        · cases hx
        · split at hx
          · rename_i f xs hc
            split at hx
            · rename_i fc r h1 k1 lg1 hfn hcall
              obtain ⟨fn, c⟩ := fc
              obtain ⟨f1, f2, f3⟩ := fnEv_spec hfn
              obtain ⟨a1, a2⟩ := xOps_spec hT hmt hcl l hx
              obtain ⟨b1, b2⟩ := hcl _ _ _ _ _ _ _ _ _ hcall
              refine ⟨fun p hp => a1 p (b1 p hp), fun hl K hK => AOps.innW hd hg (OCallR.mono (calleeEv_spec hmt hc f1 f3 (by rw [f2]; rfl) (b2 (fun p hp => hl p (a1 p hp)))) fun r' h'' hh => ?_)⟩
              obtain ⟨rfl, rfl⟩ := hh
              exact a2 hl K hK
            · cases hx
          · cases hx
    · cases hx
end
def AV.eqS : AV → AV → Bool
  | .bool a, .bool b => a == b
  | .int k a, .int k' b => decide (k = k') && decide (a = b)
  | .nil, .nil => true
  | .nilp, .nilp => true
  | .ref b n o l, .ref b' n' o' l' => Nat.beq b b' && (Nat.beq n n' && (Nat.beq o o' && Nat.beq l l'))
  | .ptr b n o l, .ptr b' n' o' l' => Nat.beq b b' && (Nat.beq n n' && (Nat.beq o o' && Nat.beq l l'))
  | .map b, .map b' => Nat.beq b b'
  | _, _ => false
theorem eqS_spec {x y : AV} (h : x.eqS y = true) : x = y := by
  unfold AV.eqS at h
  split at h
  · rw [beq_iff_eq] at h; rw [h]
  · rw [Bool.and_eq_true, decide_eq_true_eq, decide_eq_true_eq] at h
    rw [h.1, h.2]
  · rfl
  · rfl
  · rw [Bool.and_eq_true, Bool.and_eq_true, Bool.and_eq_true] at h
    obtain ⟨h1, h2, h3, h4⟩ := h
    rw [Nat.eq_of_beq_eq_true h1, Nat.eq_of_beq_eq_true h2, Nat.eq_of_beq_eq_true h3, Nat.eq_of_beq_eq_true h4]
  · rw [Bool.and_eq_true, Bool.and_eq_true, Bool.and_eq_true] at h
    obtain ⟨h1, h2, h3, h4⟩ := h
    rw [Nat.eq_of_beq_eq_true h1, Nat.eq_of_beq_eq_true h2, Nat.eq_of_beq_eq_true h3, Nat.eq_of_beq_eq_true h4]
  · rw [Nat.eq_of_beq_eq_true h]
  · cases h
def eqSs : List AV → List AV → Bool
  | [], [] => true
  | x :: xs, y :: ys => x.eqS y && eqSs xs ys
  | _, _ => false
theorem eqSs_spec : ∀ {xs ys : List AV}, eqSs xs ys = true → xs = ys
  | [], [], _ => rfl
  | x :: xs, y :: ys, h => by
    simp only [eqSs, Bool.and_eq_true] at h
    rw [eqS_spec h.1, eqSs_spec h.2]
  | [], _ :: _, h => by cases h
  | _ :: _, [], h => by cases h
def eqRs : List (List AV) → List (List AV) → Bool
  | [], [] => true
  | x :: xs, y :: ys => eqSs x y && eqRs xs ys
  | _, _ => false
theorem eqRs_spec : ∀ {xs ys : List (List AV)}, eqRs xs ys = true → xs = ys
  | [], [], _ => rfl
  | x :: xs, y :: ys, h => by
    simp only [eqRs, Bool.and_eq_true] at h
    rw [eqSs_spec h.1, eqRs_spec h.2]
  | [], _ :: _, h => by cases h
  | _ :: _, [], h => by cases h
def sameAt (h h' : AHeap) (b : Nat) : Bool := match h b, h' b with
  | some (.row p sz es), some (.row p' sz' es') => p == p' && (Nat.beq sz sz' && eqRs es es')
  | some .free, some .free => true
  | _, _ => false
theorem sameAt_spec {h h' : AHeap} {b : Nat} (e : sameAt h h' b = true) : h b = h' b := by
  unfold sameAt at e
  split at e
  · rename_i h1 h2
    rw [Bool.and_eq_true, Bool.and_eq_true, beq_iff_eq] at e
    rw [h1, h2, e.1, Nat.eq_of_beq_eq_true e.2.1, eqRs_spec e.2.2]
  · rename_i h1 h2
    rw [h1, h2]
  · cases e
def wOf (h h' : AHeap) : List Nat → List (Nat × AObj)
  | [] => []
  | b :: l => match sameAt h h' b, h' b with
    | false, some q => (b, q) :: wOf h h' l
    | _, _ => wOf h h' l
theorem wOf_mem {h h' : AHeap} {L0 : List Nat} : ∀ {l : List Nat}, (∀ b ∈ l, b ∈ L0) → (wOf h h' l).all (fun p => mem L0 p.1) = true
  | [], _ => rfl
  | b :: l, hh => by
    unfold wOf
    split
    · rw [List.all_cons, Bool.and_eq_true]
      exact ⟨mem_iff.2 (hh b (by simp)), wOf_mem fun c hc => hh c (by simp [hc])⟩
    · exact wOf_mem fun c hc => hh c (by simp [hc])
theorem wOf_put {h h' : AHeap} {b : Nat} {q : AObj} (hq : h' b = some q) : ∀ (l : List Nat) (h0 : AHeap), h0 b = h b ∨ h0 b = some q → b ∈ l ∨ h0 b = some q → hputs h0 (wOf h h' l) b = some q
  | [], h0, _, hh => by
    rcases hh with hh | hh
    · simp at hh
    · exact hh
  | c :: l, h0, ha, hh => by
    unfold wOf
    split
    · rename_i q' hs hq'
      show hputs (hput h0 c q') (wOf h h' l) b = some q
      by_cases hb : b = c
      · subst hb
        rw [hq] at hq'
        cases hq'
        exact wOf_put hq l _ (.inr (hput_same _ _ _)) (.inr (hput_same _ _ _))
      · refine wOf_put hq l _ (by rw [hput_ne _ _ hb]; exact ha) ?_
        rcases hh with hh | hh
        · simp [hb] at hh; exact .inl hh
        · exact .inr (by rw [hput_ne _ _ hb]; exact hh)
    · rename_i hn
      refine wOf_put hq l _ ha ?_
      by_cases hb : b = c
      · subst hb
        refine .inr ?_
        rcases ha with ha | ha
        · cases e : sameAt h h' b with
          | true => rw [ha, sameAt_spec e, hq]
          | false => exact absurd hq (hn _ e)
        · exact ha
      · rcases hh with hh | hh
        · simp [hb] at hh; exact .inl hh
        · exact .inr hh
theorem AllL.ofX {p : Nat → Prop} : ∀ {L : List Nat}, (∀ b ∈ L, p b) → AllL L p
  | [], _ => trivial
  | b :: L, h => ⟨h b (by simp), AllL.ofX fun c hc => h c (by simp [hc])⟩
def avoidAll (h : AHeap) (L : List Nat) : List Nat → Bool
  | [] => true
  | b :: l => match h b with
    | some q => q.avoid (mem L) && avoidAll h L l
    | none => false
theorem avoidAll_spec {h : AHeap} {L : List Nat} : ∀ {l : List Nat}, avoidAll h L l = true → ∀ b ∈ l, ∃ q, h b = some q ∧ q.avoid (mem L) = true
  | c :: l, hh, b, hb => by
    unfold avoidAll at hh
    split at hh
    · rename_i q hq
      rw [Bool.and_eq_true] at hh
      rcases List.mem_cons.1 hb with rfl | hb
      · exact ⟨q, hq, hh.1⟩
      · exact avoidAll_spec hh.2 b hb
    · cases hh
theorem hres_more {h : AHeap} {L0 F : List Nat} (hf : ∀ b ∈ F, h b = some .free) : hres h (L0 ++ F) = hres h L0 := by
  funext b
  unfold hres
  cases e0 : mem L0 b with
  | true =>
    have : mem (L0 ++ F) b = true := mem_iff.2 (List.mem_append.2 (.inl (mem_iff.1 e0)))
    rw [this]
  | false =>
    cases e1 : mem (L0 ++ F) b with
    | false => rfl
    | true =>
      rcases List.mem_append.1 (mem_iff.1 e1) with h1 | h1
      · rw [mem_iff.2 h1] at e0; cases e0
      · rw [cond_true, cond_false]; exact hf b h1
def seen0 (h : AHeap) (k : Nat) (xs : List AV) : List Nat := bif xs.all AV.isPure then [] else (List.range k).filter fun b => (h b).isSome
def freshL (k k' : Nat) (h' : AHeap) : List Nat := (List.range' k (k' - k)).filter fun b => (h' b).isSome
def callFit (h h' : AHeap) (k k' : Nat) (xs : List AV) (r : AV) : Bool :=
  (freshL k k' h').all (isFree h) && (xs.all (AV.avoid (mem (seen0 h k xs ++ freshL k k' h'))) && (avoidAll h (seen0 h k xs ++ freshL k k' h') (seen0 h k xs ++ freshL k k' h') &&
    (avoidAll h' (seen0 h k xs ++ freshL k k' h') (seen0 h k xs ++ freshL k k' h') && r.avoid (mem (seen0 h k xs ++ freshL k k' h')))))
def directEv (o : Op) (e : AEnv) : Option (Nat × List AV) :=
  match o with
  | .call ⟨.value (.func f), args, _⟩ => match lookAll e args.toList with
    | some xs => some (f, xs)
    | none => none
  | _ => none
section
variable {P : Program} {o : Oper} {e : AEnv} {h : AHeap}
theorem direct_spec {f : Nat} {xs : List AV} {fn : Func} {k k' : Nat} {h' : AHeap} {r : AV} (hc : directEv o.op e = some (f, xs)) (hf : P.funcs[f]? = some fn) (hnm : (fn.name == "runtime.NumGoroutine") = false) (hb : fn.body.isSome = true)
    (hfit : callFit h h' k k' xs r = true) (hcall : ACall P f xs (hres h (seen0 h k xs)) (fun r1 h1 => r1 = r ∧ h1 = h')) :
    OLoc P o e h (seen0 h k xs ++ freshL k k' h') (wOf h h' (seen0 h k xs ++ freshL k k' h')) (some r) := by
  unfold callFit at hfit
  rw [Bool.and_eq_true, Bool.and_eq_true, Bool.and_eq_true, Bool.and_eq_true] at hfit
  obtain ⟨c1, c2, c3, c4, c5⟩ := hfit
  unfold directEv at hc
  split at hc
  · rename_i f' args tys ho
    split at hc
    · rename_i ys hx
      simp only [Option.some.injEq, Prod.mk.injEq] at hc
      obtain ⟨rfl, rfl⟩ := hc
      refine o_call (hc := hres h (seen0 h k ys)) (hw := h') _ _ ho hf hnm hb hx c2 (AllL.ofX (avoidAll_spec c3)) (wOf_mem fun b hb => hb) (hres_more fun b hb => isFree_spec (List.all_eq_true.1 c1 b hb)) (AllL.ofX fun b hb => ?_) c5 (hcall.mono fun r1 h1 hh => ?_)
      · obtain ⟨q, q1, q2⟩ := avoidAll_spec c4 b hb
        exact ⟨q, q1, wOf_put q1 _ _ (.inl rfl) (.inl hb), q2⟩
      · obtain ⟨rfl, rfl⟩ := hh
        exact ⟨rfl, HSub.refl _⟩
    · cases hc
  · cases hc
end
def xDops (P : Program) (T : Nat → Option TyI) (mt : Nat → String → Option Nat) (ct : Nat → Option (List AV → Option AV)) (cl : XCall) (ops : Array Oper) (n : Nat) : List Oper → AEnv → AHeap → Nat → XLog → List (List Nat × List Nat) → Option (AEnv × AHeap × Nat × XLog)
  | [], e, h, k, lg, acc => match chk ops acc with
    | true => some (e, h, k, lg)
    | false => none
  | o :: l, e, h, k, lg, acc => match guardIs ops o e with
    | some false => match o.dst with
      | some d => match Nat.blt d n with
        | true => xDops P T mt ct cl ops n l (eput e d (.tup [])) h k lg (acc ++ [([], [])])
        | false => none
      | none => xDops P T mt ct cl ops n l e h k lg (acc ++ [([], [])])
    | some true => match o.dst with
      | some d => match Nat.blt d n with
        | true => match qAll P T o.op e h with
          | some (R, r) => xDops P T mt ct cl ops n l (eput e d r) h k lg (acc ++ [(R, [])])
          | none => match xAll P T o.dst o.op e h k with
            | some (R, W, some r, k') => xDops P T mt ct cl ops n l (eput e d r) (hputs h W) k' lg (acc ++ [(R, W.map (·.1))])
            | some (_, _, none, _) => none
            | none => match ctEv mt ct o.op e with
              | some (f, xs, r) => match fnEv P f with
                | some _ => xDops P T mt ct cl ops n l (eput e d r) h k ((f, xs, r) :: lg) (acc ++ [([], [])])
                | none => none
              | none => match directEv o.op e with
                | some (f, xs) => match fnEv P f, cl f xs (hres h (seen0 h k xs)) k lg with
                  | some _, some (r, h', k', lg') => match callFit h h' k k' xs r with
                    | true => xDops P T mt ct cl ops n l (eput e d r) (hputs h (wOf h h' (seen0 h k xs ++ freshL k k' h'))) k' lg' (acc ++ [(seen0 h k xs ++ freshL k k' h', (wOf h h' (seen0 h k xs ++ freshL k k' h')).map (·.1))])
                    | false => none
                  | _, _ => none
                | none => none
        | false => none
      | none => match xAll P T o.dst o.op e h k with
        | some (R, W, none, k') => xDops P T mt ct cl ops n l e (hputs h W) k' lg (acc ++ [(R, W.map (·.1))])
        | _ => none
    | none => none
section
variable {P : Program} {T : Nat → Option TyI} {mt : Nat → String → Option Nat} {ct : Nat → Option (List AV → Option AV)} {cl : XCall} {ops : Array Oper} {n : Nat}
theorem DOps.uw {o : Oper} {rest : List Oper} {e : AEnv} {h : AHeap} {acc : List (List Nat × List Nat)} {K : AState → Prop} (hd : o.dst = none) (hg : guardIs ops o e = some false) (hr : DOps P ops n rest e h (acc ++ [([], [])]) K) : DOps P ops n (o :: rest) e h acc K := by
  have := DOps.skip' (P := P) (ops := ops) (n := n) (e := e) (h := h) (acc := acc) (K := K) (o := o) (rest := rest) hg (fun t e => by rw [hd] at e; cases e)
  rw [hd] at this
  exact this hr
theorem xDops_spec (hT : TOk P T) (hcl : cl.Ok P) : ∀ (l : List Oper) {e e' : AEnv} {h h' : AHeap} {k k' : Nat} {lg lg' : XLog} {acc : List (List Nat × List Nat)}, xDops P T mt ct cl ops n l e h k lg acc = some (e', h', k', lg') →
    (∀ p ∈ lg, p ∈ lg') ∧ (LogOk P lg' → ∀ K : AState → Prop, K ⟨n, e', h'⟩ → DOps P ops n l e h acc K)
  | [], e, e', h, h', k, k', lg, lg', acc, hx => by
    unfold xDops at hx
    split at hx
    · rename_i hc
      simp only [Option.some.injEq, Prod.mk.injEq] at hx
      obtain ⟨rfl, rfl, rfl, rfl⟩ := hx
      exact ⟨fun p hp => hp, fun _ K hK => DOps.nil hc hK⟩
    · cases hx
  | o :: l, e, e', h, h', k, k', lg, lg', acc, hx => by
    unfold xDops at hx
    split at hx
    · rename_i hg
      split at hx
      · rename_i d hd
        split at hx
        · rename_i hb
          obtain ⟨a1, a2⟩ := xDops_spec hT hcl l hx
          exact ⟨a1, fun hl K hK => DOps.u d hd hb hg (a2 hl K hK)⟩
        · cases hx
      · rename_i hd
        obtain ⟨a1, a2⟩ := xDops_spec hT hcl l hx
        exact ⟨a1, fun hl K hK => DOps.uw hd hg (a2 hl K hK)⟩
    · rename_i hg
      split at hx
      · rename_i d hd
        split at hx
        · rename_i hb
          split at hx
          · rename_i R r hq
            obtain ⟨a1, a2⟩ := xDops_spec hT hcl l hx
            exact ⟨a1, fun hl K hK => DOps.s d hd hb hg (qAll_spec hT hq) (a2 hl K hK)⟩
          · split at hx
            · rename_i R W r k1 hv
              obtain ⟨a1, a2⟩ := xDops_spec hT hcl l hx
              exact ⟨a1, fun hl K hK => DOps.x d hd hb hg (xAll_spec hT hv) (a2 hl K hK)⟩
            · cases hx
            · split at hx
              · rename_i f xs r hc
                split at hx
                · rename_i fc hfn
                  obtain ⟨fn, c⟩ := fc
                  obtain ⟨f1, f2, f3⟩ := fnEv_spec hfn
                  obtain ⟨a1, a2⟩ := xDops_spec hT hcl l hx
                  refine ⟨fun p hp => a1 p (by simp [hp]), fun hl K hK => DOps.x d hd hb hg (ctEv_spec hc f1 f3 (by rw [f2]; rfl) (hl (f, xs, r) (a1 _ (by simp)))) (a2 hl K hK)⟩
                · cases hx
              · split at hx
                · rename_i f xs hc
                  split at hx
                  · rename_i fc r h1 k1 lg1 hfn hcall
                    obtain ⟨fn, c⟩ := fc
                    obtain ⟨f1, f2, f3⟩ := fnEv_spec hfn
                    split at hx
                    · rename_i hfit
                      obtain ⟨a1, a2⟩ := xDops_spec hT hcl l hx
                      obtain ⟨b1, b2⟩ := hcl _ _ _ _ _ _ _ _ _ hcall
                      exact ⟨fun p hp => a1 p (b1 p hp), fun hl K hK => DOps.x d hd hb hg (direct_spec hc f1 f3 (by rw [f2]; rfl) hfit (b2 (fun p hp => hl p (a1 p hp)))) (a2 hl K hK)⟩
                    · cases hx
                  · cases hx
                · cases hx
        · cases hx
      · rename_i hd
        split at hx
        · rename_i R W k1 hv
          obtain ⟨a1, a2⟩ := xDops_spec hT hcl l hx
          exact ⟨a1, fun hl K hK => DOps.w hd hg (xAll_spec hT hv) (a2 hl K hK)⟩
        · cases hx
    · cases hx
end
def resEv (T : Nat → Option TyI) (e : AEnv) (h : AHeap) : List ResultVar → Option (List AV)
  | [] => some []
  | .tmp t :: rs => match e t, resEv T e h rs with
    | some x, some xs => some (x :: xs)
    | _, _ => none
  | .cell a t :: rs => match e a, T t with
    | some p, some i => match ptsOf h p with
      | some (_, cs) => match loadAV i cs, resEv T e h rs with
        | some x, some xs => some (x :: xs)
        | _, _ => none
      | none => none
    | _, _ => none
theorem resEv_spec {T : Nat → Option TyI} {n : Nat} {e : AEnv} {h : AHeap} : ∀ {rs : List ResultVar} {xs : List AV}, resEv T e h rs = some xs → resAll T ⟨n, e, h⟩ rs xs
  | [], xs, hx => by simp [resEv] at hx; subst hx; trivial
  | .tmp t :: rs, xs, hx => by
    unfold resEv at hx
    split at hx
    · rename_i x ys h1 h2
      simp only [Option.some.injEq] at hx
      subst hx
      exact ⟨h1, resEv_spec h2⟩
    · cases hx
  | .cell a t :: rs, xs, hx => by
    unfold resEv at hx
    split at hx
    · rename_i p i h1 h2
      split at hx
      · rename_i R cs h3
        split at hx
        · rename_i x ys h4 h5
          simp only [Option.some.injEq] at hx
          subst hx
          exact ⟨⟨p, i, R, cs, h1, h2, ptsOf_spec h3, h4⟩, resEv_spec h5⟩
        · cases hx
      · cases hx
    · cases hx
def endsOk : Exit → Bool
  | .normal | .ret => true
  | _ => false
abbrev XEnd := Option (Exit × AEnv × AHeap × Nat × XLog)
def xGo (P : Program) (T : Nat → Option TyI) (mt : Nat → String → Option Nat) (ct : Nat → Option (List AV → Option AV)) (fz : Nat → Nat → Option Nat) : Nat → Nat → Code → AEnv → AHeap → Nat → XLog → XEnd
  | 0, _, _, _, _, _, _ => none
  | g + 1, n, c, e, h, k, lg => match c with
    | .skip => some (.normal, e, h, k, lg)
    | .label _ => some (.normal, e, h, k, lg)
    | .exit id => some (.exit id, e, h, k, lg)
    | .ret => some (.ret, e, h, k, lg)
    | .seq a b => match xGo P T mt ct fz g n a e h k lg with
      | some (x, e1, h1, k1, lg1) => match x with
        | .normal => xGo P T mt ct fz g n b e1 h1 k1 lg1
        | x => some (x, e1, h1, k1, lg1)
      | none => none
    | .cond (.tmp t) a b => match e t with
      | some (.bool true) => xGo P T mt ct fz g n a e h k lg
      | some (.bool false) => xGo P T mt ct fz g n b e h k lg
      | _ => none
    | .block id b => match xGo P T mt ct fz g n b e h k lg with
      | some (x, e1, h1, k1, lg1) => match x with
        | .exit id' => match Nat.beq id' id with
          | true => some (.normal, e1, h1, k1, lg1)
          | false => some (.exit id', e1, h1, k1, lg1)
        | x => some (x, e1, h1, k1, lg1)
      | none => none
    | .loop b => match xGo P T mt ct fz g n b e h k lg with
      | some (x, e1, h1, k1, lg1) => match x with
        | .normal => xGo P T mt ct fz g n (.loop b) e1 h1 k1 lg1
        | x => some (x, e1, h1, k1, lg1)
      | none => none
    | .scope b => match xGo P T mt ct fz g n b e h k lg with
      | some (x, e1, h1, k1, lg1) => match x with
        | .goto _ => none
        | x => some (x, e1, h1, k1, lg1)
      | none => none
    | .region id ops dr => (match frzAt fz n id k e h with
      | (e0, h0) => match dr with
      | false => match xOps P T mt ct (fun f xs h k lg => match fnEv P f with
          | some (fn, c) => match xGo P T mt ct fz g (xs.length + (fn.ntmps - xs.length)) c (argEnv xs) h k lg with
            | some (x, e1, h1, k1, lg1) => match endsOk x, resEv T e1 h1 fn.results.toList with
              | true, some ys => some (packAV ys, h1, k1, lg1)
              | _, _ => none
            | none => none
          | none => none) ops n ops.toList e0 h0 k lg with
        | some (e1, h1, k1, lg1) => some (.normal, e1, h1, k1, lg1)
        | none => none
      | true => match xDops P T mt ct (fun f xs h k lg => match fnEv P f with
          | some (fn, c) => match xGo P T mt ct fz g (xs.length + (fn.ntmps - xs.length)) c (argEnv xs) h k lg with
            | some (x, e1, h1, k1, lg1) => match endsOk x, resEv T e1 h1 fn.results.toList with
              | true, some ys => some (packAV ys, h1, k1, lg1)
              | _, _ => none
            | none => none
          | none => none) ops n ops.toList e0 h0 k lg [] with
        | some (e1, h1, k1, lg1) => some (.normal, e1, h1, k1, lg1)
        | none => none)
    | _ => none
def xCl (P : Program) (T : Nat → Option TyI) (mt : Nat → String → Option Nat) (ct : Nat → Option (List AV → Option AV)) (fz : Nat → Nat → Option Nat) (g : Nat) : XCall := fun f xs h k lg => match fnEv P f with
  | some (fn, c) => match xGo P T mt ct fz g (xs.length + (fn.ntmps - xs.length)) c (argEnv xs) h k lg with
    | some (x, e1, h1, k1, lg1) => match endsOk x, resEv T e1 h1 fn.results.toList with
      | true, some ys => some (packAV ys, h1, k1, lg1)
      | _, _ => none
    | none => none
  | none => none
def EndsAt (x : Exit) (s : AState) : Exit → AState → Prop := fun x1 s1 => x1 = x ∧ s1 = s
section
variable {P : Program} {T : Nat → Option TyI} {mt : Nat → String → Option Nat} {ct : Nat → Option (List AV → Option AV)} {fz : Nat → Nat → Option Nat}
theorem then_of {x : Exit} {s s1 : AState} {x1 : Exit} {K : AState → Prop} {Q : Exit → AState → Prop} (h : EndsAt x s x1 s1) (hn : x = .normal → K s) (ho : x ≠ .normal → Q x s) : Then K Q x1 s1 := by
  obtain ⟨rfl, rfl⟩ := h
  cases x1 with
  | normal => exact hn rfl
  | _ => exact ho (fun h => by cases h)
theorem xCl_ok (hT : TOk P T) {g : Nat} (ih : ∀ n c e h k lg x e' h' k' lg', xGo P T mt ct fz g n c e h k lg = some (x, e', h', k', lg') → (∀ p ∈ lg, p ∈ lg') ∧ (LogOk P lg' → AGo P c ⟨n, e, h⟩ (EndsAt x ⟨n, e', h'⟩))) : (xCl P T mt ct fz g).Ok P := by
  intro f xs h k lg r h' k' lg' hx
  unfold xCl at hx
  split at hx
  · rename_i fn c hfn
    obtain ⟨f1, f2, f3⟩ := fnEv_spec hfn
    split at hx
    · rename_i x e1 h1 k1 lg1 hg
      split at hx
      · rename_i ys hend hres
        simp only [Option.some.injEq, Prod.mk.injEq] at hx
        obtain ⟨rfl, rfl, rfl, rfl⟩ := hx
        obtain ⟨a1, a2⟩ := ih _ _ _ _ _ _ _ _ _ _ _ hg
        refine ⟨a1, fun hl => ACall.of_body hT f1 f2 rfl (AGo.mono (a2 hl) fun x1 s1 hh => ?_)⟩
        obtain ⟨rfl, rfl⟩ := hh
        cases x1 <;> simp [endsOk] at hend
        · exact ⟨ys, resEv_spec hres, rfl, rfl⟩
        · exact ⟨ys, resEv_spec hres, rfl, rfl⟩
      · cases hx
    · cases hx
  · cases hx
theorem xGo_spec (hT : TOk P T) (hmt : mtOk P mt) (hmx : P.follows .mixedOrders = true) : ∀ (g n : Nat) (c : Code) (e : AEnv) (h : AHeap) (k : Nat) (lg : XLog) (x : Exit) (e' : AEnv) (h' : AHeap) (k' : Nat) (lg' : XLog), xGo P T mt ct fz g n c e h k lg = some (x, e', h', k', lg') →
    (∀ p ∈ lg, p ∈ lg') ∧ (LogOk P lg' → AGo P c ⟨n, e, h⟩ (EndsAt x ⟨n, e', h'⟩) ∧ ∀ b, c = .loop b → ∃ m, Un P b (EndsAt x ⟨n, e', h'⟩) m ⟨n, e, h⟩)
  | 0, _, _, _, _, _, _, _, _, _, _, _, hx => by cases hx
  | g + 1, n, c, e, h, k, lg, x, e', h', k', lg', hx => by
    have ih := xGo_spec hT hmt hmx g
    have ih1 : ∀ n c e h k lg x e' h' k' lg', xGo P T mt ct fz g n c e h k lg = some (x, e', h', k', lg') → (∀ p ∈ lg, p ∈ lg') ∧ (LogOk P lg' → AGo P c ⟨n, e, h⟩ (EndsAt x ⟨n, e', h'⟩)) :=
      fun n c e h k lg x e' h' k' lg' hg => ⟨(ih n c e h k lg x e' h' k' lg' hg).1, fun hl => ((ih n c e h k lg x e' h' k' lg' hg).2 hl).1⟩
    have hcl := xCl_ok (P := P) (mt := mt) (ct := ct) (fz := fz) hT ih1
    cases c with
    | skip =>
      simp only [xGo, Option.some.injEq, Prod.mk.injEq] at hx
      obtain ⟨rfl, rfl, rfl, rfl, rfl⟩ := hx
      exact ⟨fun p hp => hp, fun _ => ⟨AGo.skip ⟨rfl, rfl⟩, fun b hb => by cases hb⟩⟩
    | label l =>
      simp only [xGo, Option.some.injEq, Prod.mk.injEq] at hx
      obtain ⟨rfl, rfl, rfl, rfl, rfl⟩ := hx
      exact ⟨fun p hp => hp, fun _ => ⟨AGo.label ⟨rfl, rfl⟩, fun b hb => by cases hb⟩⟩
    | exit id =>
      simp only [xGo, Option.some.injEq, Prod.mk.injEq] at hx
      obtain ⟨rfl, rfl, rfl, rfl, rfl⟩ := hx
      exact ⟨fun p hp => hp, fun _ => ⟨AGo.exit ⟨rfl, rfl⟩, fun b hb => by cases hb⟩⟩
    | ret =>
      simp only [xGo, Option.some.injEq, Prod.mk.injEq] at hx
      obtain ⟨rfl, rfl, rfl, rfl, rfl⟩ := hx
      exact ⟨fun p hp => hp, fun _ => ⟨AGo.ret ⟨rfl, rfl⟩, fun b hb => by cases hb⟩⟩
    | seq a b =>
      simp only [xGo] at hx
      split at hx
      · rename_i x1 e1 h1 k1 lg1 hg
        obtain ⟨a1, a2⟩ := ih1 _ _ _ _ _ _ _ _ _ _ _ hg
        split at hx
        · obtain ⟨b1, b2⟩ := ih1 _ _ _ _ _ _ _ _ _ _ _ hx
          exact ⟨fun p hp => b1 p (a1 p hp), fun hl => ⟨AGo.seq (AGo.mono (a2 fun p hp => hl p (b1 p hp)) fun x2 s2 hh => then_of hh (fun _ => b2 hl) (fun hn => absurd rfl hn)), fun b hb => by cases hb⟩⟩
        · rename_i hne
          simp only [Option.some.injEq, Prod.mk.injEq] at hx
          obtain ⟨rfl, rfl, rfl, rfl, rfl⟩ := hx
          exact ⟨a1, fun hl => ⟨AGo.seq (AGo.mono (a2 hl) fun x2 s2 hh => then_of hh (fun hn => absurd hn hne) (fun _ => ⟨rfl, rfl⟩)), fun b hb => by cases hb⟩⟩
      · cases hx
    | cond o a b =>
      cases o with
      | tmp t =>
        simp only [xGo] at hx
        split at hx
        · rename_i ht
          obtain ⟨a1, a2⟩ := ih1 _ _ _ _ _ _ _ _ _ _ _ hx
          exact ⟨a1, fun hl => ⟨AGo.cond_true true ht rfl (a2 hl), fun b hb => by cases hb⟩⟩
        · rename_i ht
          obtain ⟨a1, a2⟩ := ih1 _ _ _ _ _ _ _ _ _ _ _ hx
          exact ⟨a1, fun hl => ⟨AGo.cond_false false ht rfl (a2 hl), fun b hb => by cases hb⟩⟩
        · cases hx
      | _ => simp only [xGo] at hx; cases hx
    | block id b =>
      simp only [xGo] at hx
      split at hx
      · rename_i x1 e1 h1 k1 lg1 hg
        obtain ⟨a1, a2⟩ := ih1 _ _ _ _ _ _ _ _ _ _ _ hg
        split at hx
        · rename_i id'
          split at hx
          · rename_i hid
            simp only [Option.some.injEq, Prod.mk.injEq] at hx
            obtain ⟨rfl, rfl, rfl, rfl, rfl⟩ := hx
            refine ⟨a1, fun hl => ⟨AGo.block (AGo.mono (a2 hl) fun x2 s2 hh => ?_), fun b hb => by cases hb⟩⟩
            obtain ⟨rfl, rfl⟩ := hh
            show bif Nat.beq id' id then _ else _
            rw [hid]; exact ⟨rfl, rfl⟩
          · rename_i hid
            simp only [Option.some.injEq, Prod.mk.injEq] at hx
            obtain ⟨rfl, rfl, rfl, rfl, rfl⟩ := hx
            refine ⟨a1, fun hl => ⟨AGo.block (AGo.mono (a2 hl) fun x2 s2 hh => ?_), fun b hb => by cases hb⟩⟩
            obtain ⟨rfl, rfl⟩ := hh
            show bif Nat.beq id' id then _ else _
            rw [hid]; exact ⟨rfl, rfl⟩
        · rename_i hne
          simp only [Option.some.injEq, Prod.mk.injEq] at hx
          obtain ⟨rfl, rfl, rfl, rfl, rfl⟩ := hx
          refine ⟨a1, fun hl => ⟨AGo.block (AGo.mono (a2 hl) fun x2 s2 hh => ?_), fun b hb => by cases hb⟩⟩
          obtain ⟨rfl, rfl⟩ := hh
          cases x2 with
          | exit i => exact absurd rfl (hne i)
          | _ => exact ⟨rfl, rfl⟩
      · cases hx
    | loop b =>
      simp only [xGo] at hx
      split at hx
      · rename_i x1 e1 h1 k1 lg1 hg
        obtain ⟨a1, a2⟩ := ih1 _ _ _ _ _ _ _ _ _ _ _ hg
        split at hx
        · obtain ⟨b1, b2⟩ := ih _ _ _ _ _ _ _ _ _ _ _ hx
          refine ⟨fun p hp => b1 p (a1 p hp), fun hl => ?_⟩
          obtain ⟨m, hm⟩ := (b2 hl).2 b rfl
          have hu : Un P b (EndsAt x ⟨n, e', h'⟩) (m + 1) ⟨n, e, h⟩ := AGo.un_succ (AGo.mono (a2 fun p hp => hl p (b1 p hp)) fun x2 s2 hh => then_of hh (fun _ => hm) (fun hn => absurd rfl hn))
          exact ⟨AGo.unroll _ hu, fun b' hb => by cases hb; exact ⟨_, hu⟩⟩
        · rename_i hne
          simp only [Option.some.injEq, Prod.mk.injEq] at hx
          obtain ⟨rfl, rfl, rfl, rfl, rfl⟩ := hx
          refine ⟨a1, fun hl => ?_⟩
          have hu : Un P b (EndsAt x1 ⟨n, e1, h1⟩) 0 ⟨n, e, h⟩ := AGo.un_zero (AGo.mono (a2 hl) fun x2 s2 hh => then_of hh (fun hn => absurd hn hne) (fun _ => ⟨rfl, rfl⟩))
          exact ⟨AGo.unroll _ hu, fun b' hb => by cases hb; exact ⟨_, hu⟩⟩
      · cases hx
    | scope b =>
      simp only [xGo] at hx
      split at hx
      · rename_i x1 e1 h1 k1 lg1 hg
        obtain ⟨a1, a2⟩ := ih1 _ _ _ _ _ _ _ _ _ _ _ hg
        split at hx
        · cases hx
        · rename_i hne
          simp only [Option.some.injEq, Prod.mk.injEq] at hx
          obtain ⟨rfl, rfl, rfl, rfl, rfl⟩ := hx
          refine ⟨a1, fun hl => ⟨AGo.scope (AGo.mono (a2 hl) fun x2 s2 hh => ?_), fun b hb => by cases hb⟩⟩
          obtain ⟨rfl, rfl⟩ := hh
          cases x2 with
          | goto i => exact absurd rfl (hne i)
          | _ => exact ⟨rfl, rfl⟩
      · cases hx
    | region id ops dr =>
      cases dr with
      | false =>
        simp only [xGo] at hx
        generalize hfz : frzAt fz n id k e h = eh at hx
        obtain ⟨e0, h0⟩ := eh
        have hgst := frzAt_ghost hfz
        simp only at hx
        split at hx
        · rename_i e1 h1 k1 lg1 hg
          simp only [Option.some.injEq, Prod.mk.injEq] at hx
          obtain ⟨rfl, rfl, rfl, rfl, rfl⟩ := hx
          obtain ⟨a1, a2⟩ := xOps_spec hT hmt hcl _ hg
          exact ⟨a1, fun hl => ⟨AGo.ghost hgst (AGo.region (a2 hl _ ⟨rfl, rfl⟩)), fun b hb => by cases hb⟩⟩
        · cases hx
      | true =>
        simp only [xGo] at hx
        generalize hfz : frzAt fz n id k e h = eh at hx
        obtain ⟨e0, h0⟩ := eh
        have hgst := frzAt_ghost hfz
        simp only at hx
        split at hx
        · rename_i e1 h1 k1 lg1 hg
          simp only [Option.some.injEq, Prod.mk.injEq] at hx
          obtain ⟨rfl, rfl, rfl, rfl, rfl⟩ := hx
          obtain ⟨a1, a2⟩ := xDops_spec hT hcl _ hg
          exact ⟨a1, fun hl => ⟨AGo.ghost hgst (AGo.draw hmx (a2 hl _ ⟨rfl, rfl⟩)), fun b hb => by cases hb⟩⟩
        · cases hx
    | _ => simp only [xGo] at hx; cases hx
end
theorem AGo.endsGhost {P : Program} {c : Code} {x : Exit} {s s1 s2 : AState} (h : AGo P c s (EndsAt x s1)) (hg : Ghost s1 s2) : AGo P c s (EndsAt x s2) := fun H ι a w hs =>
  wp_mono (h H ι a w hs) fun e a' w' hp => by
    obtain ⟨s', H', ι', ⟨rfl, rfl⟩, h1, h2⟩ := hp
    obtain ⟨H2, ι2, h3, h4⟩ := hg H' ι' a' w' h1
    exact ⟨s2, H2, ι2, ⟨rfl, rfl⟩, h3, h2.trans hs.heap h1.heap h4⟩
def resRefs (e : AEnv) : List ResultVar → List Nat
  | [] => []
  | .tmp t :: rs => (match e t with | some x => refsOf x | none => []) ++ resRefs e rs
  | .cell t _ :: rs => (match e t with | some x => refsOf x | none => []) ++ resRefs e rs
def runR (P : Program) (T : Nat → Option TyI) (mt : Nat → String → Option Nat) (ct : Nat → Option (List AV → Option AV)) (fz : Nat → Nat → Option Nat) (g f : Nat) (xs : List AV) : Option (AV × XLog) := match fnEv P f with
  | some (fn, c) => match xGo P T mt ct fz g (xs.length + (fn.ntmps - xs.length)) c (argEnv xs) hNew 0 [] with
    | some (x, e1, h1, k1, lg1) => match frzL (xs.length + (fn.ntmps - xs.length)) k1 (reachL h1 4 (resRefs e1 fn.results.toList)) e1 h1 with
      | (e2, h2) => match endsOk x, resEv T e2 h2 fn.results.toList with
        | true, some ys => match (packAV ys).isPure with
          | true => some (packAV ys, lg1)
          | false => none
        | _, _ => none
    | none => none
  | none => none
theorem APure.of_runR {P : Program} {T : Nat → Option TyI} {mt : Nat → String → Option Nat} {ct : Nat → Option (List AV → Option AV)} {fz : Nat → Nat → Option Nat} (hT : TOk P T) (hmt : mtOk P mt) (hmx : P.follows .mixedOrders = true) (g : Nat) {f : Nat} {xs : List AV} {r : AV} {lg : XLog}
    (hx : runR P T mt ct fz g f xs = some (r, lg)) (hl : LogOk P lg) : APure P f xs (fun r' => r' = r) := by
  unfold runR at hx
  split at hx
  · rename_i fn c hfn
    obtain ⟨f1, f2, f3⟩ := fnEv_spec hfn
    split at hx
    · rename_i x e1 h1 k1 lg1 hg
      split at hx
      rename_i e2 h2 hfz
      split at hx
      · rename_i ys hend hres
        split at hx
        · rename_i hp
          simp only [Option.some.injEq, Prod.mk.injEq] at hx
          obtain ⟨rfl, rfl⟩ := hx
          have ha := ((xGo_spec hT hmt hmx g _ _ _ _ _ _ _ _ _ _ _ hg).2 hl).1
          refine APure.of_body hT f1 f2 rfl (AGo.mono (AGo.endsGhost ha (frzL_ghost _ hfz)) fun x1 s1 hh => ?_)
          obtain ⟨rfl, rfl⟩ := hh
          cases x1 <;> simp [endsOk] at hend
          · exact ⟨ys, resEv_spec hres, rfl, hp⟩
          · exact ⟨ys, resEv_spec hres, rfl, hp⟩
        · cases hx
      · cases hx
    · cases hx
  · cases hx
theorem logOk_nil (P : Program) : LogOk P [] := fun p hp => by cases hp
theorem logOk_cons {P : Program} {f : Nat} {xs : List AV} {r : AV} {lg : XLog} (h : APure P f xs (fun r' => r' = r)) (hl : LogOk P lg) : LogOk P ((f, xs, r) :: lg) := fun p hp => by
  cases hp with
  | head => exact h
  | tail _ hp => exact hl p hp
theorem logOk_app {P : Program} {a b : XLog} (h1 : LogOk P a) (h2 : LogOk P b) : LogOk P (a ++ b) := fun p hp => (List.mem_append.1 hp).elim (h1 p) (h2 p)
def tinyA : BFunc := ⟨3, [⟨[⟨1, 0, 0, 0, 0, 0, 0, 60⟩, ⟨1, 1, 0, 0, 0, 0, 0, 5⟩, ⟨3, 2, 0, 1, 4, 0, 0, 0⟩, ⟨9, 0, 2, 0, 0, 0, 0, 0⟩], 3, 0, 0, 0⟩]⟩
def tinyB : BFunc := ⟨3, [⟨[⟨1, 0, 0, 0, 0, 0, 0, 60⟩, ⟨1, 1, 0, 0, 0, 0, 0, 5⟩, ⟨1, 2, 0, 0, 0, 0, 0, 65⟩, ⟨9, 0, 2, 0, 0, 0, 0, 0⟩], 3, 0, 0, 0⟩]⟩
def tinyC : BFunc := ⟨3, [⟨[⟨1, 2, 0, 0, 0, 0, 0, 65⟩, ⟨9, 0, 2, 0, 0, 0, 0, 0⟩], 3, 0, 0, 0⟩]⟩
def certT : Cert := ⟨[[true, true, true]]⟩
def certF : Cert := ⟨[[false, false, false]]⟩
def tinyP (f : BFunc) : Blocks := ⟨0, [f]⟩
theorem APure.of_call {P : Program} {f : Nat} {args : List AV} {r : AV} {h0 : AHeap} (hp : r.isPure = true) (hc : ACall P f args hNew (fun r' h' => r' = r ∧ HSub h0 h')) : APure P f args (fun r' => r' = r) := by
  intro H w vs ha hk
  refine (hc H noLay w vs ha (heapRel_new hk)).mono fun e w' hx => ?_
  obtain ⟨v, r', h', H', ι', rfl, ⟨rfl, _⟩, h3, h4, h5⟩ := hx
  have hno : ∀ rb, ¬ Owned hNew noLay rb := fun rb ho => by obtain ⟨b, o, r, e1, e2, e3, _⟩ := ho; cases e3
  exact ⟨v, r', H', rfl, rfl, pure_rel hp h3, ⟨h5.size, h5.os, h5.out, fun rb hlt => h5.keep rb hlt (hno rb), h5.kle, fun b hb => (h5.knew b hb).imp id fun h => h.resolve_right (hno b), h4.know⟩⟩
def mt35 : Nat → String → Option Nat := fun t s => bif Nat.beq t 97 then (bif s == "seedcorn/optimize.run" then some 128 else bif s == "seedcorn/optimize.holds" then some 127 else none) else bif Nat.beq t 99 then (bif s == "seedcorn/optimize.run" then some 142 else bif s == "seedcorn/optimize.holds" then some 141 else none) else none
theorem mt_cr (v : Value) (w : World) : (method (Tryz.prog.types.size + Made.depth) 97 v "seedcorn/optimize.run").run Tryz.prog w = .ok (128, v) w := by kernel_rfl
theorem mt_ch (v : Value) (w : World) : (method (Tryz.prog.types.size + Made.depth) 97 v "seedcorn/optimize.holds").run Tryz.prog w = .ok (127, v) w := by kernel_rfl
theorem mt_jr (v : Value) (w : World) : (method (Tryz.prog.types.size + Made.depth) 99 v "seedcorn/optimize.run").run Tryz.prog w = .ok (142, v) w := by kernel_rfl
theorem mt_jh (v : Value) (w : World) : (method (Tryz.prog.types.size + Made.depth) 99 v "seedcorn/optimize.holds").run Tryz.prog w = .ok (141, v) w := by kernel_rfl
theorem mt_ok : mtOk Tryz.prog mt35 := fun t name f v w h => by
  unfold mt35 at h
  cases ht : Nat.beq t 97 with
  | true =>
    obtain rfl := Nat.eq_of_beq_eq_true ht
    rw [ht] at h
    simp only [cond_true] at h
    cases h1 : name == "seedcorn/optimize.run" with
    | true =>
      rw [h1] at h
      obtain rfl := eq_of_beq h1
      simp only [cond_true, Option.some.injEq] at h
      subst h
      exact mt_cr v w
    | false =>
      rw [h1] at h
      cases h2 : name == "seedcorn/optimize.holds" with
      | true =>
        rw [h2] at h
        obtain rfl := eq_of_beq h2
        simp only [cond_true, cond_false, Option.some.injEq] at h
        subst h
        exact mt_ch v w
      | false => rw [h2] at h; cases h
  | false =>
    rw [ht] at h
    cases ht2 : Nat.beq t 99 with
    | true =>
      obtain rfl := Nat.eq_of_beq_eq_true ht2
      rw [ht2] at h
      simp only [cond_true, cond_false] at h
      cases h1 : name == "seedcorn/optimize.run" with
      | true =>
        rw [h1] at h
        obtain rfl := eq_of_beq h1
        simp only [cond_true, Option.some.injEq] at h
        subst h
        exact mt_jr v w
      | false =>
        rw [h1] at h
        cases h2 : name == "seedcorn/optimize.holds" with
        | true =>
          rw [h2] at h
          obtain rfl := eq_of_beq h2
          simp only [cond_true, cond_false, Option.some.injEq] at h
          subst h
          exact mt_jh v w
        | false => rw [h2] at h; cases h
    | false => rw [ht2] at h; cases h
def fz35 : Nat → Nat → Option Nat := fun n i => bif Nat.beq n 83 && Nat.beq i 14 then some 6 else bif Nat.beq n 90 && Nat.beq i 19 then some 14 else none
def tinyBl : Block := ⟨[⟨1, 2, 0, 0, 0, 0, 0, 65⟩, ⟨9, 0, 2, 0, 0, 0, 0, 0⟩], 3, 0, 0, 0⟩
def touchR : AV := .tup [.lst false [[.int .u64 0]], .lst false [[.int .u64 4]]]
def ct35 : Nat → Option (List AV → Option AV) := fun f => bif Nat.beq f 97 then some (fun _ => some touchR) else none
def certAT : AV := .lst false [[.lst false [[.bool true], [.bool true], [.bool true]]]]
def certAF : AV := .lst false [[.lst false [[.bool false], [.bool false], [.bool false]]]]
def tinyCX : List AV := [.int .i64 3, .lst false [[.lst true (tinyBl.ins.map Tac.cells), .int .i64 3, .int .i64 0, .int .i64 0, .int .i64 0]]]
def tinyPs : AV := .lst false [
  [.int .i64 1, certAT, .nil] ++ tinyB.cells,
  [.int .i64 2, certAT, .nil] ++ tinyB.cells,
  [.int .i64 3, certAF, .nil] ++ tinyC.cells,
  [.int .i64 4, .nil, .lst false [[.lst false [[.int .i64 0]]]]] ++ tinyCX]
def tinyR : AV := .tup [.agg [.int .i64 0, .lst false [tinyCX]], .lst false [[tinyPs]], .int .i64 0]
def tinyAA : List AV := [.agg (tinyP tinyA).cells, .lst false [[.int .i64 1], [.int .i64 2], [.int .i64 3], [.int .i64 4]]]
def ctA : Nat → Option (List AV → Option AV) := fun f => bif Nat.beq f 129 then some (fun _ => some (.bool true)) else bif Nat.beq f 30 then some (fun _ => some (.agg (tinyP tinyA).cells)) else bif Nat.beq f 15 then some (fun xs => match xs with | [_, .lst _ (_ :: _ :: _)] => some tinyR | _ => none) else none
def noCt : Nat → Option (List AV → Option AV) := fun _ => none
def tiny_log : XLog := [(30, [], .agg (tinyP tinyA).cells)]
def vlog : XLog := [(129, [.agg tinyB.cells, .agg tinyC.cells, .agg [certAF]], .bool true), (129, [.agg tinyB.cells, .agg tinyB.cells, .agg [certAT]], .bool true), (129, [.agg tinyA.cells, .agg tinyB.cells, .agg [certAT]], .bool true)]
theorem tiny_ok : APure Tryz.prog 30 [] (fun r => r = .agg (tinyP tinyA).cells) :=
  APure.of_runR (ct := noCt) (fz := fz35) (lg := []) tok mt_ok (by kernel_rfl) 1000 (by kernel_rfl) (logOk_nil _)
theorem tiny_l : LogOk Tryz.prog tiny_log := logOk_cons tiny_ok (logOk_nil _)
theorem awake_ev (ho : APure Tryz.prog 15 tinyAA (fun r => r = tinyR)) (hv : LogOk Tryz.prog vlog) : APure Tryz.prog 14 [] (fun r => r = .bool true) :=
  APure.of_runR (ct := ctA) (fz := fz35) (lg := tiny_log ++ (vlog ++ (tiny_log ++ (tiny_log ++ ((15, tinyAA, tinyR) :: tiny_log))))) tok mt_ok (by kernel_rfl) 1000 (by kernel_rfl)
    (logOk_app tiny_l (logOk_app hv (logOk_app tiny_l (logOk_app tiny_l (logOk_cons ho tiny_l)))))
def need (v : Nat) : List Tac → Bool → Bool
  | [], z => z
  | t :: r, z => t.uses.contains (v : Int) || (!(t.sets == (v : Int)) && need v r z)
theorem need_app (v : Nat) (l2 : List Tac) (z : Bool) : ∀ l1, need v (l1 ++ l2) z = need v l1 (need v l2 z)
  | [] => rfl
  | t :: r => by rw [List.cons_append, need, need, need_app v l2 z r]
def endz (x : Block) (v : Nat) : Bool := x.fin == 2 && x.v == (v : Int)
inductive LiveIn (f : BFunc) (v : Nat) : Nat → Prop
  | here {c : Nat} {x : Block} : f.blocks[c]? = some x → need v x.ins (endz x v) = true → LiveIn f v c
  | thru {c : Nat} {d : Int} {x : Block} : f.blocks[c]? = some x → need v x.ins true = true → d ∈ x.nexts → LiveIn f v d.toNat → LiveIn f v c
open Classical in
noncomputable def inB (f : BFunc) (v c : Nat) : Bool := decide (LiveIn f v c)
noncomputable def outB (f : BFunc) (x : Block) (v : Nat) : Bool := x.nexts.any fun d => inB f v d.toNat
theorem inB_iff {f : BFunc} {v c : Nat} : inB f v c = true ↔ LiveIn f v c := by unfold inB; simp
theorem outB_iff {f : BFunc} {x : Block} {v : Nat} : outB f x v = true ↔ ∃ d ∈ x.nexts, LiveIn f v d.toNat := by
  unfold outB
  rw [List.any_eq_true]
  exact ⟨fun ⟨d, h1, h2⟩ => ⟨d, h1, inB_iff.1 h2⟩, fun ⟨d, h1, h2⟩ => ⟨d, h1, inB_iff.2 h2⟩⟩
end Go.Proofs.YtbbfelelocccmaaGreat.Sv

namespace Go.Proofs.YtbbfelelocccmaaGreat.Sv
open Go
section
variable {call call' : Int → Mach → Mach} {s : ByteArray} {fuel : Int}
theorem sets_eq {t : Tac} (h : setsOp t.op = true) : t.sets = t.d := by unfold Tac.sets; rw [h]; rfl
end
def mrow (R : Nat) (p : Nat → Bool) : List Bool := (List.range R).map p
def nd (R : Nat) (x : Block) (p : Nat → Bool) (i : Nat) : List Bool := mrow R (fun v => need v (x.ins.drop i) (endz x v || p v))
abbrev BB := Nat → Nat → Bool
def SoundI (f : BFunc) (I : BB) : Prop := ∀ b v, I b v = true → LiveIn f v b
def SoundO (f : BFunc) (O : BB) : Prop := ∀ b v, O b v = true → ∃ x, f.blocks[b]? = some x ∧ outB f x v = true
def falses (n R : Nat) (I : BB) : Nat := ((List.range n).map fun b => ((List.range R).map fun v => if I b v then 0 else 1).sum).sum
def putBB (I : BB) (b v : Nat) (z : Bool) : BB := fun b' v' => if b' = b ∧ v' = v then z else I b' v'
theorem sum_lt {n : Nat} {p q : Nat → Nat} (h : ∀ k, k < n → p k ≤ q k) {j : Nat} (hj : j < n) (hlt : p j < q j) : ((List.range n).map p).sum < ((List.range n).map q).sum := by
  induction n with
  | zero => omega
  | succ n ih =>
    rw [List.range_succ, List.map_append, List.map_append, List.sum_append, List.sum_append]
    simp only [List.map_cons, List.map_nil, List.sum_cons, List.sum_nil]
    have hle : ∀ m, m ≤ n → ((List.range m).map p).sum ≤ ((List.range m).map q).sum := by
      intro m
      induction m with
      | zero => intro _; exact Nat.le_refl _
      | succ m im =>
        intro hm
        rw [List.range_succ, List.map_append, List.map_append, List.sum_append, List.sum_append]
        simp only [List.map_cons, List.map_nil, List.sum_cons, List.sum_nil]
        have := im (by omega); have := h m (by omega); omega
    have h1 := h n (by omega)
    by_cases hjn : j = n
    · subst hjn; have := hle j (Nat.le_refl _); omega
    · have := ih (fun k hk => h k (by omega)) (by omega); omega
theorem falses_put {n R : Nat} {I : BB} {b v : Nat} (hb : b < n) (hv : v < R) (h : I b v = false) : falses n R (putBB I b v true) < falses n R I := by
  unfold falses
  have hp : ∀ b' v', (if putBB I b v true b' v' then 0 else 1) ≤ (if I b' v' then 0 else 1 : Nat) := fun b' v' => by
    unfold putBB
    split
    · simp
    · split <;> simp_all
  have hsum : ∀ (m : Nat) (p q : Nat → Nat), (∀ k, p k ≤ q k) → ((List.range m).map p).sum ≤ ((List.range m).map q).sum := fun m p q hpq => by
    induction m with
    | zero => exact Nat.le_refl _
    | succ m im =>
      rw [List.range_succ, List.map_append, List.map_append, List.sum_append, List.sum_append]
      simp only [List.map_cons, List.map_nil, List.sum_cons, List.sum_nil]
      have := hpq m; omega
  refine sum_lt (fun k _ => hsum R _ _ (hp k)) hb ?_
  refine sum_lt (fun k _ => hp b k) hv ?_
  unfold putBB
  simp [h]
theorem soundO_put {f : BFunc} {I O : BB} (hI : SoundI f I) (hO : SoundO f O) {b v : Nat} {x : Block} {d : Int} (hx : f.blocks[b]? = some x) (hd : d ∈ x.nexts) : SoundO f (putBB O b v (O b v || I d.toNat v)) := by
  intro b' v' h
  unfold putBB at h
  split at h
  · rename_i e
    obtain ⟨rfl, rfl⟩ := e
    rw [Bool.or_eq_true] at h
    rcases h with h | h
    · exact hO _ _ h
    · exact ⟨x, hx, outB_iff.2 ⟨d, hd, hI _ _ h⟩⟩
  · exact hO _ _ h
theorem soundI_put {f : BFunc} {I : BB} (hI : SoundI f I) {b v : Nat} (h : LiveIn f v b) : SoundI f (putBB I b v true) := by
  intro b' v' h'
  unfold putBB at h'
  split at h'
  · rename_i e
    obtain ⟨rfl, rfl⟩ := e
    exact h
  · exact hI _ _ h'
theorem putBB_row (I : BB) (b v : Nat) (z : Bool) : putBB I b v z b = fun u => if u = v then z else I b u := by
  funext u; unfold putBB; simp
theorem putBB_ne {I : BB} {b b' : Nat} (v : Nat) (z : Bool) (h : b' ≠ b) : putBB I b v z b' = I b' := by
  funext u; unfold putBB; simp [h]
def b2n (b : Bool) : Nat := bif b then 1 else 0
structure RG where
  I : BB
  O : BB
  more : Bool
structure OInv (f : BFunc) (R : Nat) (I O0 : BB) (b : Nat) (x : Block) (O : BB) (j v : Nat) : Prop where
  so : SoundO f O
  ne : ∀ b', b' ≠ b → O b' = O0 b'
  js : ∀ j', j' < j → ∀ d, x.nexts[j']? = some d → ∀ u, u < R → I d.toNat u = true → O b u = true
  vs : ∀ d, x.nexts[j]? = some d → ∀ u, u < v → I d.toNat u = true → O b u = true
theorem OInv.step {f : BFunc} {R : Nat} {I O0 : BB} {b : Nat} {x : Block} {O : BB} {j v : Nat} (hI : SoundI f I) (hx : f.blocks[b]? = some x) {d : Int} (hd : x.nexts[j]? = some d) (h : OInv f R I O0 b x O j v) : OInv f R I O0 b x (putBB O b v (O b v || I d.toNat v)) j (v + 1) := by
  have hmono : ∀ u, O b u = true → putBB O b v (O b v || I d.toNat v) b u = true := fun u hu => by
    rw [putBB_row]
    show (if u = v then _ else _) = true
    by_cases e : u = v
    · subst e; rw [if_pos rfl, hu]; rfl
    · rw [if_neg e]; exact hu
  refine ⟨soundO_put hI h.so hx (List.mem_of_getElem? hd), fun b' hb => by rw [putBB_ne _ _ hb]; exact h.ne b' hb, fun j' hj d' hd' u hu hi => hmono u (h.js j' hj d' hd' u hu hi), fun d' hd' u hu hi => ?_⟩
  rw [hd] at hd'; cases hd'
  by_cases e : u = v
  · subst e
    rw [putBB_row]
    show (if u = u then _ else _) = true
    rw [if_pos rfl, hi, Bool.or_true]
  · exact hmono u (h.vs d hd u (by omega) hi)
structure AInv (f : BFunc) (R B : Nat) (g : RG) (b : Nat) (p : Nat → Bool) (I : BB) (more : Bool) (v : Nat) : Prop where
  si : SoundI f I
  ms : more = false → g.more = false ∧ I = g.I
  bud : falses f.blocks.length R I + b2n more ≤ B
  us : ∀ u, u < v → p u = true → I b u = true
theorem AInv.skip {f : BFunc} {R B : Nat} {g : RG} {b : Nat} {p : Nat → Bool} {I : BB} {more : Bool} {v : Nat} (h : AInv f R B g b p I more v) (hp : (p v && !I b v) = false) : AInv f R B g b p I more (v + 1) := by
  refine ⟨h.si, h.ms, h.bud, fun u hu e => ?_⟩
  by_cases eu : u = v
  · subst eu
    rw [e] at hp
    simpa using hp
  · exact h.us u (by omega) e
theorem AInv.put {f : BFunc} {R B : Nat} {g : RG} {b : Nat} {p : Nat → Bool} {I : BB} {more : Bool} {v : Nat} (h : AInv f R B g b p I more v) (hp : (p v && !I b v) = true) (hb : b < f.blocks.length) (hv : v < R) (hl : p v = true → LiveIn f v b) : AInv f R B g b p (putBB I b v true) true (v + 1) := by
  simp only [Bool.and_eq_true, Bool.not_eq_true'] at hp
  have hf := falses_put (I := I) hb hv hp.2
  refine ⟨soundI_put h.si (hl hp.1), (fun e => by cases e), ?_, fun u hu e => ?_⟩
  · have := h.bud
    show _ + 1 ≤ B
    omega
  · rw [putBB_row]
    show (if u = v then _ else _) = true
    by_cases eu : u = v
    · rw [if_pos eu]
    · rw [if_neg eu]; exact h.us u (by omega) e
def encN (p : Nat → Bool) : Nat → Nat
  | 0 => 0
  | n + 1 => encN p n + (if p n then 2 ^ n else 0)
theorem encN_lt (p : Nat → Bool) : ∀ n, encN p n < 2 ^ n
  | 0 => by simp [encN]
  | n + 1 => by
    have ih := encN_lt p n
    unfold encN
    have : 2 ^ (n + 1) = 2 ^ n + 2 ^ n := by rw [Nat.pow_succ]; omega
    split <;> omega
theorem encN_bit (p : Nat → Bool) : ∀ n i, (encN p n).testBit i = (decide (i < n) && p i)
  | 0, i => by simp [encN]
  | n + 1, i => by
    have ih := encN_bit p n i
    have hlt := encN_lt p n
    unfold encN
    by_cases hp : p n = true
    · rw [if_pos hp, Nat.add_comm]
      by_cases h1 : i < n
      · rw [Nat.testBit_two_pow_add_gt h1, ih]
        simp [h1]; omega
      · by_cases h2 : i = n
        · subst h2
          rw [Nat.testBit_two_pow_add_eq, ih]
          simp [hp]
        · have h3 : 2 ^ n + encN p n < 2 ^ i := by
            have : 2 ^ (n + 1) ≤ 2 ^ i := Nat.pow_le_pow_right (by omega) (by omega)
            rw [Nat.pow_succ] at this; omega
          rw [Nat.testBit_lt_two_pow h3]
          have : ¬ i < n + 1 := by omega
          simp [this]
    · rw [if_neg hp, Nat.add_zero, ih]
      by_cases h2 : i = n
      · subst h2; simp [hp]
      · by_cases h1 : i < n
        · have : i < n + 1 := by omega
          simp [h1, this]
        · have : ¬ i < n + 1 := by omega
          simp [h1, this]
theorem eq_encN {p : Nat → Bool} {n x : Nat} (h : ∀ i, x.testBit i = (decide (i < n) && p i)) : x = encN p n := Nat.eq_of_testBit_eq fun i => by rw [h, encN_bit]
theorem encN_congr {p q : Nat → Bool} {n : Nat} (h : ∀ i, i < n → p i = q i) : encN p n = encN q n := eq_encN fun i => by
  rw [encN_bit]
  by_cases hi : i < n
  · simp [hi, h i hi]
  · simp [hi]
theorem wrap_u64 {x : Nat} (h : x < 18446744073709551616) : IntKind.u64.wrap (x : Int) = (x : Int) := wrapN_u64 h
theorem ofInt_nat (w x : Nat) : BitVec.ofInt w (x : Int) = BitVec.ofNat w x := by
  apply BitVec.eq_of_toNat_eq
  simp
def wd (p : Nat → Bool) : Nat := encN p 64
theorem wd_lt (p : Nat → Bool) : wd p < 18446744073709551616 := encN_lt p 64
theorem wd_bit (p : Nat → Bool) (i : Nat) : (wd p).testBit i = (decide (i < 64) && p i) := encN_bit p 64 i
theorem wd_mod (p : Nat → Bool) : wd p % 2 ^ 64 = wd p := Nat.mod_eq_of_lt (wd_lt p)
theorem wd_or (p q : Nat → Bool) : evalBin .or (.int .u64 (wd p : Int)) (.int .u64 (wd q : Int)) = some (.int .u64 (wd (fun v => p v || q v) : Int)) := by
  have e : (BitVec.ofInt 64 (wd p : Int) ||| BitVec.ofInt 64 (wd q : Int)).toNat = wd (fun v => p v || q v) := by
    rw [ofInt_nat, ofInt_nat, BitVec.toNat_or, BitVec.toNat_ofNat, BitVec.toNat_ofNat, wd_mod, wd_mod]
    refine eq_encN fun i => ?_
    rw [Nat.testBit_or, wd_bit, wd_bit]
    cases decide (i < 64) <;> simp
  show some (AV.int .u64 (IntKind.u64.wrap ((BitVec.ofInt 64 (wd p : Int) ||| BitVec.ofInt 64 (wd q : Int)).toNat : Int))) = _
  rw [e, wrap_u64 (wd_lt _)]
theorem wd_andNot (p q : Nat → Bool) : evalBin .andNot (.int .u64 (wd p : Int)) (.int .u64 (wd q : Int)) = some (.int .u64 (wd (fun v => p v && !q v) : Int)) := by
  have e : (BitVec.ofInt 64 (wd p : Int) &&& ~~~BitVec.ofInt 64 (wd q : Int)).toNat = wd (fun v => p v && !q v) := by
    refine eq_encN fun i => ?_
    rw [ofInt_nat, ofInt_nat]
    rw [← BitVec.getLsbD.eq_1, BitVec.getLsbD_and, BitVec.getLsbD_not, BitVec.getLsbD_ofNat, BitVec.getLsbD_ofNat, wd_bit, wd_bit]
    cases decide (i < 64) <;> simp
  show some (AV.int .u64 (IntKind.u64.wrap ((BitVec.ofInt 64 (wd p : Int) &&& ~~~BitVec.ofInt 64 (wd q : Int)).toNat : Int))) = _
  rw [e, wrap_u64 (wd_lt _)]
theorem wd_one {i : Nat} (h : i < 64) : evalBin .shl (.int .u64 1) (.int .i64 (i : Int)) = some (.int .u64 (wd (fun v => v == i) : Int)) := by
  have e : (2 : Nat) ^ i = wd (fun v => v == i) := eq_encN fun k => by
    rw [Nat.testBit_two_pow]
    by_cases hk : k = i
    · subst hk; simp [h]
    · have : ¬ i = k := fun e => hk e.symm
      simp [hk, this]
  have hl : (2 : Nat) ^ i < 18446744073709551616 := by rw [e]; exact wd_lt _
  have h1 : min ((i : Int).toNat) IntKind.u64.bits = i := by rw [Int.toNat_natCast]; show min i 64 = i; omega
  have h2 : evalBin .shl (.int .u64 1) (.int .i64 (i : Int)) = some (.int .u64 (IntKind.u64.wrap (1 * 2 ^ (min ((i : Int).toNat) IntKind.u64.bits)))) := by
    have hn : ¬ ((i : Int) < 0) := by omega
    simp [evalBin, isShift, evalInt, hn]
  rw [h2, h1, Int.one_mul, show ((2 : Int) ^ i) = (((2 : Nat) ^ i : Nat) : Int) by simp, wrap_u64 hl, e]
def nw (R : Nat) : Nat := (R + 63) / 64
def wdcell (p : Nat → Bool) (j : Nat) : List AV := [AV.int .u64 ((wd (fun v => p (64 * j + v)) : Nat) : Int)]
def rowW (R : Nat) (p : Nat → Bool) : List (List AV) := (List.range (nw R)).map (wdcell p)
theorem rowW_len (R : Nat) (p : Nat → Bool) : (rowW R p).length = nw R := by simp [rowW]
theorem rowW_get {R : Nat} {p : Nat → Bool} {j : Nat} (h : j < nw R) : (rowW R p)[j]? = some (wdcell p j) := by simp [rowW, h]
theorem nw_of {R i : Nat} (h : i < R) : i / 64 < nw R := by unfold nw; omega
theorem wdcell_congr {p q : Nat → Bool} {j : Nat} (h : ∀ v, v < 64 → p (64 * j + v) = q (64 * j + v)) : wdcell p j = wdcell q j := by
  unfold wdcell wd
  rw [encN_congr h]
theorem rowW_congr {R : Nat} {p q : Nat → Bool} (h : ∀ v, p v = q v) : rowW R p = rowW R q := List.map_congr_left fun j _ => wdcell_congr fun v _ => h _
theorem rowW_zero (R : Nat) : List.replicate (nw R) [AV.int .u64 0] = rowW R (fun _ => false) := by
  have e : ∀ j, wdcell (fun _ => false) j = [AV.int .u64 0] := fun j => by
    unfold wdcell wd
    have : encN (fun _ => false) 64 = 0 := (eq_encN (p := fun _ => false) (n := 64) (x := 0) (fun i => by simp)).symm
    rw [this]; rfl
  refine List.ext_getElem? fun i => ?_
  by_cases h : i < nw R
  · rw [rowW_get h, List.getElem?_replicate, if_pos h, e]
  · rw [List.getElem?_eq_none_iff.2 (by rw [List.length_replicate]; omega), List.getElem?_eq_none_iff.2 (by rw [rowW_len]; omega)]
theorem rowW_set {R : Nat} {p q : Nat → Bool} {j : Nat} (h1 : ∀ v, v / 64 ≠ j → q v = p v) : (rowW R p).set j (wdcell q j) = rowW R q := by
  refine List.ext_getElem? fun i => ?_
  rw [List.getElem?_set]
  by_cases hi : i < nw R
  · rw [rowW_get hi, rowW_get hi, rowW_len]
    by_cases h : j = i
    · subst h; simp [hi]
    · rw [if_neg h]
      congr 1
      exact wdcell_congr fun v hv => (h1 _ (by omega)).symm
  · have e1 : (rowW R p)[i]? = none := List.getElem?_eq_none_iff.2 (by rw [rowW_len]; omega)
    have e2 : (rowW R q)[i]? = none := List.getElem?_eq_none_iff.2 (by rw [rowW_len]; omega)
    rw [e1, e2, rowW_len]
    by_cases h : j = i
    · subst h; simp [hi]
    · simp [h]
theorem bit_at {i v : Nat} (hv : v < 64) : (64 * (i / 64) + v == i) = (v == i % 64) := by
  rw [Bool.eq_iff_iff, beq_iff_eq, beq_iff_eq]; omega
theorem wdcell_add (p : Nat → Bool) (i : Nat) : wdcell (fun v => p v || v == i) (i / 64) = [AV.int .u64 ((wd (fun v => p (64 * (i / 64) + v) || v == i % 64) : Nat) : Int)] := by
  unfold wdcell wd
  rw [encN_congr (q := fun v => p (64 * (i / 64) + v) || v == i % 64) (fun v hv => ?_)]
  dsimp only
  rw [bit_at hv]
theorem wdcell_rm (p : Nat → Bool) (i : Nat) : wdcell (fun v => p v && !(v == i)) (i / 64) = [AV.int .u64 ((wd (fun v => p (64 * (i / 64) + v) && !(v == i % 64)) : Nat) : Int)] := by
  unfold wdcell wd
  rw [encN_congr (q := fun v => p (64 * (i / 64) + v) && !(v == i % 64)) (fun v hv => ?_)]
  dsimp only
  rw [bit_at hv]
theorem quo64 {i : Nat} (h : i ≤ 1000000000) : evalBin .quo (.int .i64 (i : Int)) (.int .i64 64) = some (.int .i64 ((i / 64 : Nat) : Int)) := ebin_quo (b := 64) (by decide) (wrapN_i64 (by omega))
theorem rem64 {i : Nat} : evalBin .rem (.int .i64 (i : Int)) (.int .i64 64) = some (.int .i64 ((i % 64 : Nat) : Int)) := ebin_rem (b := 64) (by decide)
def setsAny (v : Nat) (l : List Tac) : Bool := l.any fun t => t.sets == (v : Int)
def readP (x : Block) (v : Nat) : Bool := need v x.ins (endz x v)
def rmT (t : Tac) (p : Nat → Bool) : Nat → Bool := fun v => p v && !(t.sets == (v : Int))
def addUs (us : List Int) (p : Nat → Bool) : Nat → Bool := fun v => us.contains (v : Int) || p v
def setT (t : Tac) (q : Nat → Bool) : Nat → Bool := fun v => q v || t.sets == (v : Int)
def tR (x : Block) (pre : List Nat) : Nat → Bool := pre.foldl (fun p k => match x.ins[k]? with
  | some t => addUs t.uses (rmT t p)
  | none => p) (endz x)
def tS (x : Block) (pre : List Nat) : Nat → Bool := pre.foldl (fun p k => match x.ins[k]? with
  | some t => setT t p
  | none => p) (fun _ => false)
theorem tR_snoc {x : Block} {pre : List Nat} {k : Nat} {t : Tac} (h : x.ins[k]? = some t) : tR x (pre ++ [k]) = addUs t.uses (rmT t (tR x pre)) := by
  unfold tR; rw [List.foldl_append]; simp [h]
theorem tS_snoc {x : Block} {pre : List Nat} {k : Nat} {t : Tac} (h : x.ins[k]? = some t) : tS x (pre ++ [k]) = setT t (tS x pre) := by
  unfold tS; rw [List.foldl_append]; simp [h]
theorem rrev_succ (k : Nat) : (List.range (k + 1)).reverse = k :: (List.range k).reverse := by
  rw [List.range_succ, List.reverse_append]; rfl
theorem foldR (x : Block) (v : Nat) : ∀ (m : Nat) (p : Nat → Bool), m ≤ x.ins.length → ((List.range m).reverse.foldl (fun p k => match x.ins[k]? with
  | some t => addUs t.uses (rmT t p)
  | none => p) p) v = need v (x.ins.take m) (p v)
  | 0, p, _ => by simp [need]
  | m + 1, p, h => by
    obtain ⟨t, ht⟩ := get_of_lt (l := x.ins) (k := m) (by omega)
    rw [rrev_succ, List.foldl_cons, foldR x v m _ (by omega), ht]
    have e : x.ins.take (m + 1) = x.ins.take m ++ [t] := by
      rw [List.take_add_one, ht]; rfl
    rw [e, need_app]
    congr 1
    unfold addUs rmT
    simp [need, Bool.and_comm]
theorem foldS (x : Block) (v : Nat) : ∀ (m : Nat) (p : Nat → Bool), m ≤ x.ins.length → ((List.range m).reverse.foldl (fun p k => match x.ins[k]? with
  | some t => setT t p
  | none => p) p) v = (p v || setsAny v (x.ins.take m))
  | 0, p, _ => by simp [setsAny]
  | m + 1, p, h => by
    obtain ⟨t, ht⟩ := get_of_lt (l := x.ins) (k := m) (by omega)
    rw [rrev_succ, List.foldl_cons, foldS x v m _ (by omega), ht]
    have e : x.ins.take (m + 1) = x.ins.take m ++ [t] := by
      rw [List.take_add_one, ht]; rfl
    rw [e]
    unfold setT setsAny
    rw [List.any_append]
    simp only [List.any_cons, List.any_nil, Bool.or_false]
    cases p v <;> cases t.sets == (v : Int) <;> cases (List.any (List.take m x.ins) fun t => t.sets == (v : Int)) <;> rfl
theorem tR_all (x : Block) (v : Nat) : tR x (List.range x.ins.length).reverse v = readP x v := by
  have := foldR x v x.ins.length (endz x) (Nat.le_refl _)
  rw [List.take_length] at this
  exact this
theorem tS_all (x : Block) (v : Nat) : tS x (List.range x.ins.length).reverse v = setsAny v x.ins := by
  have := foldS x v x.ins.length (fun _ => false) (Nat.le_refl _)
  rw [List.take_length] at this
  exact this.trans (by simp)
def wRow (R : Nat) (p : Nat → Bool) : AObj := .row true 1 (rowW R p)
theorem wRow_congr {R : Nat} {p q : Nat → Bool} (h : ∀ v, p v = q v) : some (wRow R p) = some (wRow R q) := congrArg (fun es => some (AObj.row true 1 es)) (rowW_congr h)
theorem beq_toNat {d : Int} (h : 0 ≤ d) (v : Nat) : (v == d.toNat) = (d == (v : Int)) := by
  rw [Bool.eq_iff_iff, beq_iff_eq, beq_iff_eq]; omega
theorem rmT_pos {t : Tac} {p : Nat → Bool} (h : 0 ≤ t.sets) (v : Nat) : (p v && !(v == t.sets.toNat)) = rmT t p v := by unfold rmT; rw [beq_toNat h]
theorem setT_pos {t : Tac} {p : Nat → Bool} (h : 0 ≤ t.sets) (v : Nat) : (p v || v == t.sets.toNat) = setT t p v := by unfold setT; rw [beq_toNat h]
theorem rmT_neg {t : Tac} {p : Nat → Bool} (h : ¬ 0 ≤ t.sets) (v : Nat) : p v = rmT t p v := by
  unfold rmT
  have : (t.sets == (v : Int)) = false := by rw [beq_eq_false_iff_ne]; omega
  rw [this]; simp
theorem setT_neg {t : Tac} {p : Nat → Bool} (h : ¬ 0 ≤ t.sets) (v : Nat) : p v = setT t p v := by
  unfold setT
  have : (t.sets == (v : Int)) = false := by rw [beq_eq_false_iff_ne]; omega
  rw [this]; simp
theorem addUs_nil {p : Nat → Bool} (v : Nat) : p v = addUs [] p v := by simp [addUs]
theorem addUs_succ {us : List Int} {k : Nat} {u : Int} {p : Nat → Bool} (h : us[k]? = some u) (hu : 0 ≤ u) (v : Nat) : (addUs (us.take k) p v || v == u.toNat) = addUs (us.take (k + 1)) p v := by
  unfold addUs
  have e : us.take (k + 1) = us.take k ++ [u] := by rw [List.take_add_one, h]; rfl
  have e2 : (us.take k ++ [u]).contains (v : Int) = ((us.take k).contains (v : Int) || (v == u.toNat)) := by
    rw [beq_toNat hu, Bool.eq_iff_iff]
    simp only [List.contains_iff_mem, List.mem_append, List.mem_singleton, Bool.or_eq_true, beq_iff_eq]
    constructor
    · rintro (h | h)
      · exact .inl h
      · exact .inr h.symm
    · rintro (h | h)
      · exact .inl h
      · exact .inr h.symm
  rw [e, e2]
  cases (us.take k).contains (v : Int) <;> cases (v == u.toNat) <;> cases p v <;> rfl
theorem endz_add {x : Block} (h : x.fin = 2) (h0 : 0 ≤ x.v) (v : Nat) : (false || v == x.v.toNat) = endz x v := by
  rw [beq_toNat h0]; simp [endz, h]
theorem endz_no {x : Block} (h : ¬ x.fin = 2) (v : Nat) : false = endz x v := by
  simp [endz, h]
theorem bsetsOp_ok (op : Int) : APure Tryz.prog 64 [.int .i64 op] (fun r => r = .bool (setsOp op)) := by
 refine APure.of_body (n := 11) tok Tryz.func64 rfl rfl ?_;refine asr ?_;refine aa 2 ?_;refine an ?_;refine asq ?_;refine asr ?_;refine am 3 ?_;refine an ?_;refine AGo.block ?_;refine asq ?_;refine asr ?_;refine aQ tok 2 rfl ?_;refine an ?_;refine asp 4 (fun hb1 => ?_) fun hb1 => ?_
 ·
  refine act ?_;refine agk ?_;refine act ?_;refine asr ?_;refine aa 2 ?_;refine an ?_;refine agt ⟨[_], ⟨rfl, trivial⟩, ?_, rfl⟩
  refine bc ?_
  simp [setsOp, *]
 refine acf ?_;refine asr ?_;refine aQ tok 2 rfl ?_;refine an ?_;refine asp 4 (fun hb2 => ?_) fun hb2 => ?_
 ·
  refine act ?_;refine agk ?_;refine act ?_;refine asr ?_;refine aa 2 ?_;refine an ?_;refine agt ⟨[_], ⟨rfl, trivial⟩, ?_, rfl⟩
  refine bc ?_
  simp [setsOp, *]
 refine acf ?_;refine asr ?_;refine aQ tok 2 rfl ?_;refine an ?_;refine asp 4 (fun hb3 => ?_) fun hb3 => ?_
 ·
  refine act ?_;refine agk ?_;refine act ?_;refine asr ?_;refine aa 2 ?_;refine an ?_;refine agt ⟨[_], ⟨rfl, trivial⟩, ?_, rfl⟩
  refine bc ?_
  simp [setsOp, *]
 refine acf ?_;refine asr ?_;refine aQ tok 2 rfl ?_;refine an ?_;refine asp 4 (fun hb4 => ?_) fun hb4 => ?_
 ·
  refine act ?_;refine agk ?_;refine act ?_;refine asr ?_;refine aa 2 ?_;refine an ?_;refine agt ⟨[_], ⟨rfl, trivial⟩, ?_, rfl⟩
  refine bc ?_
  simp [setsOp, *]
 refine acf ?_;refine asr ?_;refine aQ tok 2 rfl ?_;refine an ?_;refine asp 4 (fun hb5 => ?_) fun hb5 => ?_
 ·
  refine act ?_;refine agk ?_;refine act ?_;refine asr ?_;refine aa 2 ?_;refine an ?_;refine agt ⟨[_], ⟨rfl, trivial⟩, ?_, rfl⟩
  refine bc ?_
  simp [setsOp, *]
 refine acf ?_;refine agr ?_;refine aQ tok 2 rfl ?_;refine an ?_;refine asp 4 (fun hb6 => ?_) fun hb6 => ?_
 ·
  refine act ?_;refine asr ?_;refine aa 2 ?_;refine an ?_;refine agt ⟨[_], ⟨rfl, trivial⟩, ?_, rfl⟩
  refine bc ?_
  simp [setsOp, *]
 refine acf ?_;refine agk ?_;refine asr ?_;refine aa 2 ?_;refine an ?_;refine agt ⟨[_], ⟨rfl, trivial⟩, ?_, rfl⟩
 refine bc ?_
 simp [setsOp, *]
theorem breads_ok (op : Int) : APure Tryz.prog 65 [.int .i64 op] (fun r => r = .int .i64 (readsN op)) := by
 refine APure.of_body (n := 12) tok Tryz.func65 rfl rfl ?_;refine asr ?_;refine aa 2 ?_;refine an ?_;refine asq ?_;refine asr ?_;refine am 3 ?_;refine an ?_;refine AGo.block ?_;refine asq ?_;refine asr ?_;refine aQ tok 2 rfl ?_;refine an ?_;refine asp 4 (fun hb1 => ?_) fun hb1 => ?_
 ·
  refine act ?_;refine agk ?_;refine act ?_;refine asr ?_;refine aa 2 ?_;refine an ?_;refine agt ⟨[_], ⟨rfl, trivial⟩, ?_, rfl⟩
  show AV.int .i64 _ = AV.int .i64 _
  congr 1
  simp [readsN, use1, use2, *]
 refine acf ?_;refine asr ?_;refine aQ tok 2 rfl ?_;refine an ?_;refine asp 4 (fun hb2 => ?_) fun hb2 => ?_
 ·
  refine act ?_;refine agk ?_;refine act ?_;refine asr ?_;refine aa 2 ?_;refine an ?_;refine agt ⟨[_], ⟨rfl, trivial⟩, ?_, rfl⟩
  show AV.int .i64 _ = AV.int .i64 _
  congr 1
  simp [readsN, use1, use2, *]
 refine acf ?_;refine asr ?_;refine aQ tok 2 rfl ?_;refine an ?_;refine asp 4 (fun hb3 => ?_) fun hb3 => ?_
 ·
  refine act ?_;refine agk ?_;refine act ?_;refine asr ?_;refine aa 2 ?_;refine an ?_;refine agt ⟨[_], ⟨rfl, trivial⟩, ?_, rfl⟩
  show AV.int .i64 _ = AV.int .i64 _
  congr 1
  simp [readsN, use1, use2, *]
 refine acf ?_;refine agr ?_;refine aQ tok 2 rfl ?_;refine an ?_;refine asp 4 (fun hb4 => ?_) fun hb4 => ?_
 ·
  refine act ?_;refine asr ?_;refine aa 2 ?_;refine an ?_;refine agt ⟨[_], ⟨rfl, trivial⟩, ?_, rfl⟩
  show AV.int .i64 _ = AV.int .i64 _
  congr 1
  simp [readsN, use1, use2, *]
 refine acf ?_;refine asq ?_;refine asr ?_;refine aQ tok 2 rfl ?_;refine an ?_;refine asp 9 (fun hb5 => ?_) fun hb5 => ?_
 ·
  refine act ?_;refine agk ?_;refine act ?_;refine asr ?_;refine aa 2 ?_;refine an ?_;refine agt ⟨[_], ⟨rfl, trivial⟩, ?_, rfl⟩
  show AV.int .i64 _ = AV.int .i64 _
  congr 1
  simp [readsN, use1, use2, *]
 refine acf ?_;refine agr ?_;refine aQ tok 2 rfl ?_;refine an ?_;refine asp 9 (fun hb6 => ?_) fun hb6 => ?_
 ·
  refine act ?_;refine asr ?_;refine aa 2 ?_;refine an ?_;refine agt ⟨[_], ⟨rfl, trivial⟩, ?_, rfl⟩
  show AV.int .i64 _ = AV.int .i64 _
  congr 1
  simp [readsN, use1, use2, *]
 refine acf ?_;refine agk ?_;refine asr ?_;refine aa 2 ?_;refine an ?_;refine agt ⟨[_], ⟨rfl, trivial⟩, ?_, rfl⟩
 show AV.int .i64 _ = AV.int .i64 _
 congr 1
 simp [readsN, use1, use2, *]
theorem buses_ok (t : Tac) : APure Tryz.prog 81 [.agg t.cells] (fun r => r = intsAV t.uses) := by
 refine APure.of_body (n := 18) tok Tryz.func81 rfl rfl ?_;refine asr ?_;refine ax 1 (obx 8 0) ?_;refine aa 2 ?_;refine an ?_;refine asq ?_;refine asr ?_;refine aQ tok 2 rfl ?_;refine ax 5 (opu Tryz.func65 (breads_ok _)) ?_;refine an ?_;refine AGo.block ?_;refine asr ?_;refine aQ tok 2 rfl ?_;refine an ?_;refine asp 6 (fun hb1 => ?_) fun hb1 => ?_
 ·
  refine act ?_;refine asr ?_;refine aQ tok 2 rfl ?_;refine ax 10 (o_lit' tok rfl rfl rfl rfl rfl rfl (by decide) rfl rfl rfl rfl rfl rfl) ?_;refine aa 2 ?_;refine an ?_;refine agt ⟨[_], ⟨rfl, trivial⟩, ?_, rfl⟩
  show AV.lst false _ = _
  cases h1 : use1 t.op <;> cases h2 : use2 t.op <;> simp_all [readsN, Tac.uses, intsAV, partVals, AV.cells]
 refine acf ?_;refine asr ?_;refine aQ tok 2 rfl ?_;refine an ?_;refine asp 11 (fun hb2 => ?_) fun hb2 => ?_
 ·
  refine act ?_;refine asr ?_;refine aQ tok 4 rfl ?_;refine ax 17 (o_lit' tok rfl rfl rfl rfl rfl rfl (by decide) rfl rfl rfl rfl rfl rfl) ?_;refine aa 2 ?_;refine an ?_;refine agt ⟨[_], ⟨rfl, trivial⟩, ?_, rfl⟩
  show AV.lst false _ = _
  cases h1 : use1 t.op <;> cases h2 : use2 t.op <;> simp_all [readsN, Tac.uses, intsAV, partVals, AV.cells]
 refine acf ?_;refine agk ?_;refine asr ?_;refine aa 2 ?_;refine an ?_;refine AGo.ghost (.empty 2 rfl) ?_;refine agt ⟨[_], ⟨rfl, trivial⟩, ?_, rfl⟩
 show AV.lst false _ = _
 cases h1 : use1 t.op <;> cases h2 : use2 t.op <;> simp_all [readsN, Tac.uses, intsAV, partVals, AV.cells]
theorem bsets_ok (t : Tac) : APure Tryz.prog 77 [.agg t.cells] (fun r => r = .int .i64 t.sets) := by
 refine APure.of_body (n := 8) tok Tryz.func77 rfl rfl ?_;refine asr ?_;refine ax 1 (obx 8 0) ?_;refine aa 2 ?_;refine an ?_;refine asq ?_;refine asr ?_;refine aQ tok 2 rfl ?_;refine ax 5 (opu Tryz.func64 (bsetsOp_ok _)) ?_;refine an ?_;refine asp 5 (fun hb1 => ?_) fun hb1 => ?_
 ·
  refine act ?_;refine asr ?_;refine aQ tok 3 rfl ?_;refine an ?_;refine agt ⟨[_], ⟨rfl, trivial⟩, ?_, rfl⟩
  show AV.int .i64 _ = AV.int .i64 _
  congr 1
  simp_all [Tac.sets]
 refine acf ?_;refine agk ?_;refine asr ?_;refine aa 2 ?_;refine an ?_;refine agt ⟨[_], ⟨rfl, trivial⟩, ?_, rfl⟩
 show AV.int .i64 _ = AV.int .i64 _
 congr 1
 simp_all [Tac.sets]
theorem breg_ok (words f regs blocks r : Int) : APure Tryz.prog 63 [(.agg [.int .i64 words, .int .i64 f, .int .i64 regs, .int .i64 blocks]), .int .i64 r] (fun q => q = .bool (within r regs)) := by
 refine APure.of_body (n := 13) tok Tryz.func63 rfl rfl ?_;refine asr ?_;refine ax 2 (obx 4 0) ?_;refine aa 4 ?_;refine an ?_;refine asr ?_;refine aQ tok 3 rfl ?_;refine aop 7 (fun hb1 => ?_) fun hb1 => ?_
 ·
  refine aQ tok 6 rfl ?_;refine an ?_;refine agt ⟨[_], ⟨rfl, trivial⟩, ?_, rfl⟩
  refine bc ?_
  first | (simp_all [within]; done) | (simp_all [within]; omega)
 refine aQ tok 6 rfl ?_;refine an ?_;refine agt ⟨[_], ⟨rfl, trivial⟩, ?_, rfl⟩
 refine bc ?_
 first | (simp_all [within]; done) | (simp_all [within]; omega)
theorem bend_ok (words f regs blocks : Int) (x : Block) : APure Tryz.prog 44 [(.agg [.int .i64 words, .int .i64 f, .int .i64 regs, .int .i64 blocks]), .agg x.cells] (fun q => q = .bool (x.ends blocks regs)) := by
 refine APure.of_body (n := 67) tok Tryz.func44 rfl rfl ?_;refine asr ?_;refine ax 2 (obx 4 0) ?_;refine ax 3 (obx 5 1) ?_;refine aa 4 ?_;refine an ?_;refine asq ?_;refine AGo.join (γ := Unit) (fun _u => ⟨67, (eput (eput (eput eNew 2 (.ptr 0 1 0 0)) 3 (.ptr 1 1 0 0)) 5 (.bool (within x.to blocks))), (hput (hput (hFrom 2) 0 (.row false 4 [[.int .i64 words, .int .i64 f, .int .i64 regs, .int .i64 blocks]])) 1 (.row false 5 [x.cells]))⟩) (fun _u => True) ?_ ?_
 ·
  refine agr ?_;refine aQ tok 4 rfl ?_;refine aop 9 (fun hb1 => ?_) fun hb1 => ?_
  ·
   refine aQ tok 7 rfl ?_;refine an ?_;exact ⟨(), Sub.mk' (by repeat (first | exact ESub.new _ | refine ESub.put ?_ (by first | rfl | exact congrArg (fun c => some (AV.bool c)) (by first | (simp_all [within]; done) | (simp_all [within]; omega))))) z9q, trivial⟩
  refine aQ tok 7 rfl ?_;refine an ?_;exact ⟨(), Sub.mk' (by repeat (first | exact ESub.new _ | refine ESub.put ?_ (by first | rfl | exact congrArg (fun c => some (AV.bool c)) (by first | (simp_all [within]; done) | (simp_all [within]; omega))))) z9q, trivial⟩
 intro _u _
 refine asq ?_;refine asr ?_;refine aQ tok 2 rfl ?_;refine an ?_;refine AGo.block ?_;refine asr ?_;refine aQ tok 2 rfl ?_;refine an ?_;refine asp 18 (fun hb2 => ?_) fun hb2 => ?_
 ·
  refine act ?_;refine asr ?_;refine aQ tok 2 rfl ?_;refine aop 21 (fun hb3 => ?_) fun hb3 => ?_
  ·
   refine aQ tok 5 rfl ?_;refine aop 26 (fun hb4 => ?_) fun hb4 => ?_
   ·
    refine aQ tok 5 rfl ?_;refine an ?_;refine agt ⟨[_], ⟨rfl, trivial⟩, ?_, rfl⟩
    refine bc ?_
    first | (simp_all [Block.ends, within]; done) | (simp_all [Block.ends, within]; omega)
   refine aQ tok 5 rfl ?_;refine an ?_;refine agt ⟨[_], ⟨rfl, trivial⟩, ?_, rfl⟩
   refine bc ?_
   first | (simp_all [Block.ends, within]; done) | (simp_all [Block.ends, within]; omega)
  refine aQ tok 10 rfl ?_;refine an ?_;refine agt ⟨[_], ⟨rfl, trivial⟩, ?_, rfl⟩
  refine bc ?_
  first | (simp_all [Block.ends, within]; done) | (simp_all [Block.ends, within]; omega)
 refine acf ?_;refine asr ?_;refine aQ tok 2 rfl ?_;refine an ?_;refine asp 31 (fun hb5 => ?_) fun hb5 => ?_
 ·
  refine act ?_;refine asr ?_;refine aQ tok 2 rfl ?_;refine aop 34 (fun hb6 => ?_) fun hb6 => ?_
  ·
   refine aQ tok 3 rfl ?_;refine ax 38 (opu Tryz.func63 (breg_ok _ _ _ _ _)) ?_;refine aQ tok 2 rfl ?_;refine aop 40 (fun hb7 => ?_) fun hb7 => ?_
   ·
    refine aQ tok 5 rfl ?_;refine aop 45 (fun hb8 => ?_) fun hb8 => ?_
    ·
     refine aQ tok 7 rfl ?_;refine an ?_;refine agt ⟨[_], ⟨rfl, trivial⟩, ?_, rfl⟩
     refine bc ?_
     first | (simp_all [Block.ends, within]; done) | (simp_all [Block.ends, within]; omega)
    refine aQ tok 7 rfl ?_;refine an ?_;refine agt ⟨[_], ⟨rfl, trivial⟩, ?_, rfl⟩
    refine bc ?_
    first | (simp_all [Block.ends, within]; done) | (simp_all [Block.ends, within]; omega)
   refine aQ tok 12 rfl ?_;refine an ?_;refine agt ⟨[_], ⟨rfl, trivial⟩, ?_, rfl⟩
   refine bc ?_
   first | (simp_all [Block.ends, within]; done) | (simp_all [Block.ends, within]; omega)
  refine aQ tok 18 rfl ?_;refine an ?_;refine agt ⟨[_], ⟨rfl, trivial⟩, ?_, rfl⟩
  refine bc ?_
  first | (simp_all [Block.ends, within]; done) | (simp_all [Block.ends, within]; omega)
 refine acf ?_;refine asr ?_;refine aQ tok 2 rfl ?_;refine an ?_;refine asp 52 (fun hb9 => ?_) fun hb9 => ?_
 ·
  refine act ?_;refine asr ?_;refine aQ tok 4 rfl ?_;refine aop 57 (fun hb10 => ?_) fun hb10 => ?_
  ·
   refine aQ tok 5 rfl ?_;refine aop 62 (fun hb11 => ?_) fun hb11 => ?_
   ·
    refine aQ tok 5 rfl ?_;refine an ?_;refine agt ⟨[_], ⟨rfl, trivial⟩, ?_, rfl⟩
    refine bc ?_
    first | (simp_all [Block.ends, within]; done) | (simp_all [Block.ends, within]; omega)
   refine aQ tok 5 rfl ?_;refine an ?_;refine agt ⟨[_], ⟨rfl, trivial⟩, ?_, rfl⟩
   refine bc ?_
   first | (simp_all [Block.ends, within]; done) | (simp_all [Block.ends, within]; omega)
  refine aQ tok 10 rfl ?_;refine an ?_;refine agt ⟨[_], ⟨rfl, trivial⟩, ?_, rfl⟩
  refine bc ?_
  first | (simp_all [Block.ends, within]; done) | (simp_all [Block.ends, within]; omega)
 refine acf ?_;refine agk ?_;refine asr ?_;refine aa 4 ?_;refine an ?_;refine agt ⟨[_], ⟨rfl, trivial⟩, ?_, rfl⟩
 refine bc ?_
 first | (simp_all [Block.ends, within]; done) | (simp_all [Block.ends, within]; omega)
theorem radd_ok (z R i : Nat) (p : Nat → Bool) (hi : i < R) (hR : R ≤ 100000) : ACall Tryz.prog 106 [.ref z (nw R) 0 (nw R), .int .i64 (i : Int)] (hput hNew z (.row true 1 (rowW R p))) (fun r h' => r = .tup [] ∧ HSub (hput hNone z (.row true 1 (rowW R (fun v => p v || v == i)))) h') := by
 have hj := nw_of hi
 refine ACall.of_body (n := 14) tok Tryz.func106 rfl rfl ?_;refine AGo.draw mix ?_;refine dm 4 ?_;refine dm 5 ?_;refine dq 6 (q_bin (r := .int .i64 ((i / 64 : Nat) : Int)) rfl rfl rfl (quo64 (by omega))) ?_;refine dq 7 (q_index_ref tok rfl rfl rfl rfl rfl rfl (hput_same _ _ _) (rowW_len _ _).symm rfl (Int.natCast_nonneg _) (by omega)) ?_;refine dq 8 (q_load tok rfl rfl rfl (.ptr _ _ _ _ _ _ _ (wdcell p (i / 64)) (hput_same _ _ _) (rowW_len _ _).symm (by rw [Nat.zero_add, Int.toNat_natCast]; exact rowW_get hj)) rfl) ?_;refine dm 9 ?_;refine dq 10 (q_bin (r := .int .i64 ((i % 64 : Nat) : Int)) rfl rfl rfl rem64) ?_;refine dq 11 (q_bin (r := .int .u64 ((wd (fun v => v == i % 64) : Nat) : Int)) rfl rfl rfl (wd_one (by omega))) ?_;refine dq 12 (q_bin rfl rfl rfl (wd_or (fun v => p (64 * (i / 64) + v)) (fun v => v == i % 64))) ?_;refine dq 13 (q_index_ref tok rfl rfl rfl rfl rfl rfl (hput_same _ _ _) (rowW_len _ _).symm rfl (Int.natCast_nonneg _) (by omega)) ?_
 refine DOps.w rfl rfl (o_store tok (es := rowW R p) (cs := wdcell p (i / 64)) rfl rfl rfl rfl rfl (hput_same _ _ _) (rowW_len _ _).symm (by rw [Nat.zero_add, Int.toNat_natCast]; exact rowW_get hj) rfl (by decide) rfl (fun _ => rfl)) ?_;refine DOps.nil (by kernel_rfl) ?_;refine ⟨[], trivial, rfl, HSub.put (HSub.none _) ((hput_same _ _ _).trans (congrArg (fun es => some (AObj.row true 1 es)) ?_))⟩
 rw [Nat.zero_add, Int.toNat_natCast]
 exact (congrArg ((rowW R p).set (i / 64)) (wdcell_add p i)).symm.trans (rowW_set (fun v hv => by
   have : (v == i) = false := by rw [beq_eq_false_iff_ne]; intro e; exact hv (by rw [e])
   simp [this]))
theorem rrm_ok (z R i : Nat) (p : Nat → Bool) (hi : i < R) (hR : R ≤ 100000) : ACall Tryz.prog 108 [.ref z (nw R) 0 (nw R), .int .i64 (i : Int)] (hput hNew z (.row true 1 (rowW R p))) (fun r h' => r = .tup [] ∧ HSub (hput hNone z (.row true 1 (rowW R (fun v => p v && !(v == i))))) h') := by
 have hj := nw_of hi
 refine ACall.of_body (n := 14) tok Tryz.func108 rfl rfl ?_;refine AGo.draw mix ?_;refine dm 4 ?_;refine dm 5 ?_;refine dq 6 (q_bin (r := .int .i64 ((i / 64 : Nat) : Int)) rfl rfl rfl (quo64 (by omega))) ?_;refine dq 7 (q_index_ref tok rfl rfl rfl rfl rfl rfl (hput_same _ _ _) (rowW_len _ _).symm rfl (Int.natCast_nonneg _) (by omega)) ?_;refine dq 8 (q_load tok rfl rfl rfl (.ptr _ _ _ _ _ _ _ (wdcell p (i / 64)) (hput_same _ _ _) (rowW_len _ _).symm (by rw [Nat.zero_add, Int.toNat_natCast]; exact rowW_get hj)) rfl) ?_;refine dm 9 ?_;refine dq 10 (q_bin (r := .int .i64 ((i % 64 : Nat) : Int)) rfl rfl rfl rem64) ?_;refine dq 11 (q_bin (r := .int .u64 ((wd (fun v => v == i % 64) : Nat) : Int)) rfl rfl rfl (wd_one (by omega))) ?_;refine dq 12 (q_bin rfl rfl rfl (wd_andNot (fun v => p (64 * (i / 64) + v)) (fun v => v == i % 64))) ?_;refine dq 13 (q_index_ref tok rfl rfl rfl rfl rfl rfl (hput_same _ _ _) (rowW_len _ _).symm rfl (Int.natCast_nonneg _) (by omega)) ?_
 refine DOps.w rfl rfl (o_store tok (es := rowW R p) (cs := wdcell p (i / 64)) rfl rfl rfl rfl rfl (hput_same _ _ _) (rowW_len _ _).symm (by rw [Nat.zero_add, Int.toNat_natCast]; exact rowW_get hj) rfl (by decide) rfl (fun _ => rfl)) ?_;refine DOps.nil (by kernel_rfl) ?_;refine ⟨[], trivial, rfl, HSub.put (HSub.none _) ((hput_same _ _ _).trans (congrArg (fun es => some (AObj.row true 1 es)) ?_))⟩
 rw [Nat.zero_add, Int.toNat_natCast]
 exact (congrArg ((rowW R p).set (i / 64)) (wdcell_rm p i)).symm.trans (rowW_set (fun v hv => by
   have : (v == i) = false := by rw [beq_eq_false_iff_ne]; intro e; exact hv (by rw [e])
   simp [this]))
theorem rowOf_ok (z R : Nat) (hR : R ≤ 100000) : ACall Tryz.prog 98 [.int .i64 (R : Int)] (hput hNew z .free) (fun r h' => r = .ref z (nw R) 0 (nw R) ∧ HSub (hput hNone z (.row true 1 (rowW R (fun _ => false)))) h') := by
 refine ACall.of_body (n := 7) tok Tryz.func98 rfl rfl ?_;refine asr ?_;refine aa 2 ?_;refine an ?_;refine asr ?_;refine am 3 ?_;refine aq 4 (q_bin (r := .int .i64 ((R + 63 : Nat) : Int)) rfl rfl rfl (ebin_add (a := R) (b := 63) (wrapN_i64 (by omega)))) ?_;refine aq 5 (q_bin (r := .int .i64 ((nw R : Nat) : Int)) rfl rfl rfl (quo64 (by omega))) ?_;refine ax 6 (o_makeSlice tok (n := nw R) (m := nw R) z true rfl rfl rfl rfl rfl rfl rfl rfl (hput_same _ _ _) rfl (Nat.zero_lt_succ _) rfl (Nat.le_refl _) (by unfold nw; show 8 * _ ≤ _; omega) (by unfold nw; simp only [maxLen]; omega)) ?_;refine aa 2 ?_;refine an ?_;refine agt ?_;refine ⟨[_], ⟨rfl, trivial⟩, rfl, HSub.put (HSub.none _) ((hput_same _ _ _).trans (congrArg (fun es => some (AObj.row true 1 es)) (rowW_zero R)))⟩
abbrev Fr (l : Nat) : Fence := Fence.wide.inRound l
section
variable {P : Program} {l n : Nat}
theorem calls_inR {f : FuncId} {args : Array Value} {w : World} {R : Ending → World → Prop} (h : Calls P f args w R) : CallsIn (Fr l) n P f args w R := callsIn_wide (n := n).2 h
theorem rows_inR {row : String} {args : Array Value} {w : World} {R : Value → World → Prop} (h : Rows P row args w R) : RowsIn (Fr l) n P row args w R := fun c cs _ =>
  let ⟨v, w', r, s⟩ := h c cs
  ⟨v, w', r, stepsIn_wide.2 s⟩
def noDefer (o : Oper) : Bool := match o.op with
  | .defer _ => false
  | _ => true
theorem oper_in {o : Oper} {a : Act} {w : World} {N : Act → World → Prop} {Q : Exit → Act → World → Prop} (hd : noDefer o = true) (h : o.wp P a w N Q) : o.wpIn (Fr l) n P a w N Q := by
  refine ⟨fun _ _ => trivial, ?_⟩
  rw [Oper.semAt_eq _ _ _ (fun c e => by unfold noDefer at hd; rw [e] at hd; cases hd)]
  unfold Oper.wp at h
  generalize (execOp a.eval o).run P w = res at h ⊢
  cases res with
  | ok x w' =>
    cases x with
    | value v => exact h
    | skip => exact h
    | defer d => exact h
    | enter f args => exact ⟨fun e => (by cases e), calls_inR h⟩
    | row r args => exact ⟨fun e => (by cases e), rows_inR h⟩
    | _ => exact h.elim
  | halt x w' =>
    cases x with
    | panic v => exact h
    | _ => exact h.elim
theorem list_in {ops : Array Oper} {Q : Exit → Act → World → Prop} (hq : ¬ LetsOut Q) : ∀ (L : List Oper), L.all noDefer = true → ∀ {a : Act} {w : World}, wpList P ops Q L a w → wpListIn (Fr l) n P ops Q L a w
  | [], _, _, _, h => h
  | o :: L, hd, a, w, h => by
    simp only [List.all_cons, Bool.and_eq_true] at hd
    have ih := @list_in ops Q hq L hd.2
    unfold wpList at h
    unfold wpListIn
    by_cases hw : Region.wanted o (yielded ops a.tmps) = true
    · rw [if_pos hw] at h ⊢
      rcases h with h | ⟨_, h⟩
      · exact oper_in hd.1 (Oper.wp_mono (fun a' w' hx => ih hx) h)
      · exact absurd h hq
    · rw [if_neg hw] at h ⊢
      exact ⟨fun _ _ => trivial, ih h⟩
def AGoR (P : Program) (l n : Nat) (c : Code) (s : AState) (Q : Exit → AState → Prop) : Prop :=
  ∀ H ι a w, Sim H ι s a w → c.wpIn (Fr l) n P (Post H ι s.h w Q) a w
variable {s s' : AState} {Q : Exit → AState → Prop}
theorem AGoR.skip (h : Q .normal s) : AGoR P l n .skip s Q := fun H ι a w hs => wpIn_skip ⟨s, H, ι, h, hs, Step.refl _ _ _ _⟩
theorem AGoR.exit {id : Nat} (h : Q (.exit id) s) : AGoR P l n (.exit id) s Q := fun H ι a w hs => wpIn_exit ⟨s, H, ι, h, hs, Step.refl _ _ _ _⟩
theorem AGoR.mono {c : Code} {Q' : Exit → AState → Prop} (h : AGoR P l n c s Q) (hq : ∀ e s, Q e s → Q' e s) : AGoR P l n c s Q' := fun H ι a w hs => wpIn_mono (h H ι a w hs) fun e a' w' hp => hp.mono (hq e)
theorem AGoR.seq {x y : Code} (h : AGoR P l n x s (Then (fun s' => AGoR P l n y s' Q) Q)) : AGoR P l n (.seq x y) s Q := by
  intro H ι a w hs
  refine wpIn_seq (wpIn_mono (h H ι a w hs) fun e a' w' hp => ?_)
  cases e with
  | normal =>
    obtain ⟨s', H', ι', q, r, t⟩ := hp
    exact wpIn_mono (q H' ι' a' w' r) fun e a'' w'' hp' => Post.step hs.heap r.heap t hp'
  | _ => exact hp
theorem AGoR.cond {t : Nat} {x y : Code} {b : Bool} (he : s.env t = some (.bool b)) (h1 : b = true → AGoR P l n x s Q) (h2 : b = false → AGoR P l n y s Q) : AGoR P l n (.cond (.tmp t) x y) s Q := by
  intro H ι a w hs
  obtain ⟨v, hv, hr⟩ := hs.env t _ he
  cases hr
  have hev : a.eval (.tmp t) = .bool b := by simp [Act.eval, hv]
  exact wpIn_cond_split hev (fun e => h1 e H ι a w hs) (fun e => h2 e H ι a w hs)
theorem AGoR.cond_true {t : Nat} {x y : Code} (b : Bool) (he : s.env t = some (.bool b)) (hb : b = true) (h : AGoR P l n x s Q) : AGoR P l n (.cond (.tmp t) x y) s Q :=
  AGoR.cond he (fun _ => h) (fun h2 => by rw [hb] at h2; cases h2)
theorem AGoR.cond_false {t : Nat} {x y : Code} (b : Bool) (he : s.env t = some (.bool b)) (hb : b = false) (h : AGoR P l n y s Q) : AGoR P l n (.cond (.tmp t) x y) s Q :=
  AGoR.cond he (fun h2 => by rw [hb] at h2; cases h2) (fun _ => h)
theorem AGoR.block {id : Nat} {c : Code} (h : AGoR P l n c s (InBlock id Q)) : AGoR P l n (.block id c) s Q := by
  intro H ι a w hs
  refine wpIn_block (wpIn_mono (h H ι a w hs) fun e a' w' hp => ?_)
  cases e with
  | exit id' =>
    obtain ⟨s', H', ι', q, r⟩ := hp
    simp only [Exit.inBlock]
    simp only [InBlock] at q
    by_cases hid : id' = id
    · subst hid
      simp only [Nat.beq_refl, cond_true] at q
      rw [if_pos rfl]
      exact ⟨s', H', ι', q, r⟩
    · rw [if_neg hid]
      rw [beq_false_of_ne hid] at q
      exact ⟨s', H', ι', q, r⟩
  | _ => exact hp
theorem AGoR.ghost {c : Code} (hg : Ghost s s') (h : AGoR P l n c s' Q) : AGoR P l n c s Q := fun H ι a w hs => by
  obtain ⟨H', ι', h1, h2⟩ := hg H ι a w hs
  exact wpIn_mono (h H' ι' a w h1) fun e a' w' hp => Post.step hs.heap h1.heap h2 hp
theorem AGoR.sub {c : Code} (hg : Sub s' s) (h : AGoR P l n c s' Q) : AGoR P l n c s Q := AGoR.ghost (.of_sub hg) h
theorem AGoR.split {c : Code} {m : Nat} {e : AEnv} {h : AHeap} (d : Nat) {b : Bool} (he : e d = some (.bool b)) (h1 : b = true → AGoR P l n c ⟨m, eput e d (.bool true), h⟩ Q) (h2 : b = false → AGoR P l n c ⟨m, eput e d (.bool false), h⟩ Q) : AGoR P l n c ⟨m, e, h⟩ Q := by
  have key : ∀ c, b = c → eput e d (.bool c) = e := fun c hc => by
    subst hc
    funext t
    by_cases ht : t = d
    · subst ht; rw [eput_same, he]
    · rw [eput_ne _ _ ht]
  cases b with
  | true => have := h1 rfl; rwa [key true rfl] at this
  | false => have := h2 rfl; rwa [key false rfl] at this
theorem AGoR.loop {γ : Type} {c : Code} (I : γ → AState → Prop) (μ : γ → Nat) (g0 : γ) (h0 : I g0 s)
    (round : ∀ g s, I g s → AGoR P l n c s (Then (fun s' => ∃ g', I g' s' ∧ μ g' < μ g) Q)) : AGoR P l n (.loop c) s Q := by
  intro H ι a w hs b k cs hro hb hr
  have key : ∀ m g s1 H1 ι1 a1 w1, μ g = m → I g s1 → Sim H1 ι1 s1 a1 w1 → Step H ι s.h w H1 ι1 s1.h w1 →
      ∃ e a' w', Post H ι s.h w Q e a' w' ∧ ArrivesIn (Machine.fenced P (Fr l)) P (lone (b.atR a1 (.code c :: .inLoop c :: k)) cs w1) b k cs e a' w' := by
    intro m
    induction m using Nat.strongRecOn with
    | _ m ih =>
      intro g s1 H1 ι1 a1 w1 hn hI hs1 hst
      obtain ⟨e, a₂, w₂, hq, harr⟩ := round g s1 hI H1 ι1 a1 w1 hs1 b (.inLoop c :: k) cs hro hb hr
      obtain ⟨s2, H2, ι2, q, r, t⟩ := hq
      have t' := hst.trans hs.heap hs1.heap t
      cases e with
      | normal =>
        obtain ⟨g', hI', hlt⟩ := q
        obtain ⟨e₂, a₃, w₃, hq₂, harr₂⟩ := ih (μ g') (hn ▸ hlt) g' s2 H2 ι2 a₂ w₂ rfl hI' r t'
        exact ⟨e₂, a₃, w₃, hq₂, .of_steps (StepsIn.trans harr (.one (fenced_calm hb hr rfl) stepR_inLoop)) harr₂⟩
      | exit id => exact ⟨.exit id, a₂, w₂, ⟨s2, H2, ι2, q, r, t'⟩, .pass (x := .inLoop c) rfl (fun _ _ => .inl (by simp)) harr⟩
      | goto t => exact ⟨.goto t, a₂, w₂, ⟨s2, H2, ι2, q, r, t'⟩, .pass (x := .inLoop c) rfl (fun _ _ => .inl (by simp)) harr⟩
      | ret => exact ⟨.ret, a₂, w₂, ⟨s2, H2, ι2, q, r, t'⟩, .pass (x := .inLoop c) rfl (fun _ _ => .inl (by simp)) harr⟩
      | panic ch => exact ⟨.panic ch, a₂, w₂, ⟨s2, H2, ι2, q, r, t'⟩, .pass (x := .inLoop c) rfl (fun _ _ => .inl (by simp)) harr⟩
      | outgrown => exact ⟨.outgrown, a₂, w₂, ⟨s2, H2, ι2, q, r, t'⟩, .pass (x := .inLoop c) rfl (fun _ _ => .inl (by simp)) harr⟩
  obtain ⟨e, a', w', hq, harr⟩ := key (μ g0) g0 s H ι a w rfl h0 hs (Step.refl _ _ _ _)
  exact ⟨e, a', w', hq, .of_steps (.one (fenced_calm hb hr rfl) stepR_loop) harr⟩
theorem AGoR.loopI {γ : Type} {c : Code} (inv : γ → AState) (F : γ → Prop) (μ : γ → Nat) (g0 : γ) (h0 : Sub (inv g0) s) (hF : F g0)
    (round : ∀ g, F g → AGoR P l n c (inv g) (Then (fun s' => ∃ g', Sub (inv g') s' ∧ F g' ∧ μ g' < μ g) Q)) : AGoR P l n (.loop c) s Q :=
  AGoR.loop (fun g s' => Sub (inv g) s' ∧ F g) μ g0 ⟨h0, hF⟩ fun g s' hs => AGoR.sub hs.1 ((round g hs.2).mono fun e s'' hq => by
    cases e with
    | normal => obtain ⟨g', h1, h2, h3⟩ := hq; exact ⟨g', ⟨h1, h2⟩, h3⟩
    | _ => exact hq)
theorem AGoR.region {id : Nat} {ops : Array Oper} (hd : ops.toList.all noDefer = true) (h : AOps P ops ops.toList s (fun s' => Q .normal s')) : AGoR P l n (.region id ops false) s Q := fun H ι a w hs => by
  have hpost : ∀ e a2 w2, Post H ι s.h w (Then (fun s' => Q .normal s') fun _ _ => False) e a2 w2 → Post H ι s.h w Q e a2 w2 := fun e a2 w2 hp => by
    obtain ⟨s', H', ι', q, r⟩ := hp
    cases e <;> first | exact ⟨s', H', ι', q, r⟩ | exact q.elim
  have hlo : ¬ LetsOut (Post H ι s.h w (Then (fun s' => Q .normal s') fun _ _ => False)) := fun ⟨a, w, s', H', ι', q, r⟩ => q
  exact wpIn_mono (wpIn_region_list (list_in hlo _ hd (h H ι a w hs))) hpost
end
end Go.Proofs.YtbbfelelocccmaaGreat.Sv
