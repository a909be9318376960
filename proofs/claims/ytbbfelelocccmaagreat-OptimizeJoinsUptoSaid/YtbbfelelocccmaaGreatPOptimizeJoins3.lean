/-
  THE CHECKER OF PASSES, IN PLAIN LEAN: own work, over no program.
  A STRUCT WITH A MAP IS BUILT: own work, over no program.
  THE DOCUMENT'S CHECKER: ITS TABLE AND WALK, IN PLAIN LEAN: own work, over no program.
  THE DOCUMENT'S CHECKER, BLOCK BY BLOCK, IN PLAIN LEAN: own work, over no program.
  VALUES AS TERMS: what both checkers' tables stand for, in plain Lean: own work, over no program.
  THE PROGRAM'S CHECKER COMPARES TERMS, IN PLAIN LEAN: own work, over no program.
  A BLOCK'S CHECK COMPARES TERMS, IN PLAIN LEAN: own work, over no program.
  THE DOCUMENT'S CHECKER COMPARES TERMS, IN PLAIN LEAN: own work, over no program.
  BOTH CHECKERS ARE ONE, IN PLAIN LEAN; small facts for the walks over the laws: own work, over no program.
  ARGUMENTS OF THE LAWS OF THE CHECKER, IN PLAIN LEAN: own work, over no program.
  WHAT A CHECK SAYS, BY ONE RUN OF EACH BLOCK, IN PLAIN LEAN: own work, over no program.
  A FUNCTION IS THE SAME AS ITSELF; ROWS PUT TOGETHER: plain Lean, own work, over no program.
  RUNS THAT HAVE DONE FEWER STEPS END ALIKE, IN PLAIN LEAN: own work, over no program.
  WHAT A RUN DOES, BY ITS EFFECTS, THE NUMBER OF BLOCKS TOO, IN PLAIN LEAN: own work, over no program.
  EACH INSTRUCTION DOES WHAT ITS TERMS SAY, IN PLAIN LEAN: own work, over no program.
  SMALL LEMMAS FOR THE WALKS OF FLOW: own work, over no program.
  TIDYING, AS THE PROGRAM DOES IT, IN PLAIN LEAN: own work, over no program.
  SMALL LEMMAS FOR THE WALKS OF TIDY: own work, over no program.
  WHETHER PATHS HOLD, AS THE PROGRAM TELLS IT, IN PLAIN LEAN: own work, over no program.
  SMALL LEMMAS FOR THE WALKS OF tidy.Check: own work, over no program.
  THE LAWS OF LAYER 33, IN PLAIN LEAN: own work, over no program.
  THE DOCUMENT'S WAY TO HOLD PATHS AGAINST A FUNCTION, IN PLAIN LEAN: own work, over no program.
  WHAT THE LAWS' GUARDS SAY, IN PLAIN LEAN: own work, over no program.
  PATHS ARE PUT TOGETHER, IN PLAIN LEAN: own work, over no program.
  WHATEVER HOLDS MEANS THE SAME, IN PLAIN LEAN: own work, over no program.
  A MACHINE THAT COUNTS BLOCKS, IN PLAIN LEAN; what is checked does just the same in it: own work, over no program.
  THE MACHINE THAT COUNTS BLOCKS: what is tidied ends alike in it; functions that end alike, put together: own work, over no program.
  THE MACHINE THAT COUNTS BLOCKS BESIDE THE ONE THAT COUNTS STEPS: own work, over no program.
  PASSES THAT LEAD FROM ONE PROGRAM TO ANOTHER, IN PLAIN LEAN: own work, over no program.
  THE CODE'S CHECKS OF INSTRUCTIONS ARE THE DOCUMENT'S, IN PLAIN LEAN: own work, over no program.
  SIZES AND SAMENESS OF PROGRAMS, IN PLAIN LEAN: own work, over no program.
  LAW 35, IN PLAIN LEAN: what is small; passes one behind the other: own work.
  HOW THINGS READ, WITH THEIR BULK: own work.
  INTERFACE VALUES, AND FUNCTION VALUES THAT ARE KNOWN: own work, over no program.
  LAW 35: the passes as values: own work.
  Short names for the commonest steps of a walk (what is said of them is found by rfl).
  A slice that is copied behind nothing: own work.
  What is put behind nothing, or behind a list, may hold slices: own work.
  FAMILIES OF ROWS, whose numbers are told by a function; DRAWN REGIONS IN WHICH CALLS MAKE FAMILIES: own work, over no program.
  THE FIELD OF A STRUCT'S VALUE: own work, over no program.
  MANY STEPS AT ONCE: steps that leave the rows alone are done by computing. Own work, over no program.
  AN EVALUATOR FOR INPUTS THAT ARE KNOWN (1): single steps. Own work, over no program.
  CALLS THAT ARE GONE THROUGH WHERE THEY STAND: own work, over no program.
  AN EVALUATOR FOR INPUTS THAT ARE KNOWN (2): steps that change rows. Own work, over no program.
  A RANGE OVER A MAP THAT IS NIL: own work, over no program.
  AN EVALUATOR FOR INPUTS THAT ARE KNOWN (3): maps whose keys are numbers, equality, ranges over nil maps. Own work, over no program.
  AN EVALUATOR FOR INPUTS THAT ARE KNOWN (8): maps whose keys are arrays of numbers, arrays, slices, strings of bytes. Own work, over no program.
  AN EVALUATOR FOR INPUTS THAT ARE KNOWN (4): regions. Own work, over no program.
-/
import Derived.Test.YtbbfelelocccmaaGreatPOptimizeJoins2
import Derived.Test.YtbbfelelocccmaaGreatPOptimizeJoins1
set_option linter.unusedVariables false
set_option linter.unusedSimpArgs false
namespace Go.Proofs.YtbbfelelocccmaaGreat.Sv
open Go
def callTac (b : Int) : Tac := ⟨10, 0, 0, 0, 0, b, 0, 0⟩
def Tac.callOk (t : Tac) : Bool := t.op != 10 || (decide (0 ≤ t.base) && t.same (callTac t.base))
def noCall (l : List Tac) : List Tac := l.filter fun t => t.op != 10
def Block.bare (x : Block) : Block := { x with ins := noCall x.ins }
def BFunc.bare (f : BFunc) : BFunc := ⟨f.regs, f.blocks.map Block.bare⟩
def BFunc.stands (f : BFunc) : Bool := f.blocks.all (fun x => x.ins.all Tac.callOk) && (Blocks.mk 1048576 [f.bare]).right
def shapeB (x y : Block) : Bool := x.fin == y.fin && (x.to == y.to && x.els == y.els)
def vshaped (old new : BFunc) : Bool := decide (old.regs = new.regs) && (decide (old.blocks.length = new.blocks.length) && (old.stands && (new.stands && (old.blocks.zip new.blocks).all fun p => shapeB p.1 p.2)))
def vblocks (old new : BFunc) (c : Cert) : Bool := (old.blocks.zip new.blocks).zipIdx.all fun p => vsame old.regs.toNat p.1.1 p.1.2 c (p.2 : Int) p.1.1.nexts
def vcheck (old new : BFunc) (c : Cert) : Bool := vshaped old new && (decide (c.same.length = old.blocks.length) && ((c.same.all fun r => decide ((r.length : Int) = old.regs)) && vblocks old new c))
theorem Ghost.freezeAll0 {n : Nat} {e : AEnv} {h : AHeap} (t b : Nat) {m sz : Nat} {es : List (List AV)} (ht : e t = some (.ref b m 0 m)) (hb : h b = some (.row true sz es)) (hm : m = es.length) :
    Ghost ⟨n, e, h⟩ ⟨n, eput e t (.lst false es), hrm h b⟩ := by
  have := Ghost.freeze (n := n) t b ht hb hm
  rwa [List.drop_zero, List.take_of_length_le (Nat.le_of_eq hm.symm)] at this
theorem ndec_same {b : Bool} (h : (!b) = false) : b = true := by simpa using h
theorem ndec_same' {b : Bool} (h : (!b) = true) : b = false := by simpa using h
theorem callOk_no {t : Tac} (h : (t.op != 10) = true) : t.callOk = true := by unfold Tac.callOk; rw [h]; rfl
theorem callOk_bad1 {t : Tac} (h : (t.op != 10) = false) (hb : decide (t.base < 0) = true) : t.callOk = false := by
  unfold Tac.callOk
  rw [h, show decide (0 ≤ t.base) = false by simp at hb ⊢; omega]; rfl
theorem callOk_bad2 {t : Tac} (h : (t.op != 10) = false) (hb : t.same (callTac t.base) = false) : t.callOk = false := by
  unfold Tac.callOk
  rw [h, hb, Bool.and_false]; rfl
theorem callOk_yes {t : Tac} (h : (t.op != 10) = false) (hb : decide (t.base < 0) = false) (h2 : t.same (callTac t.base) = true) : t.callOk = true := by
  unfold Tac.callOk
  rw [h, h2, show decide (0 ≤ t.base) = true by simp at hb ⊢; omega]; rfl
theorem noCall_yes {l : List Tac} {k : Nat} {t : Tac} (hx : l[k]? = some t) (h : (t.op != 10) = true) : noCall (l.take (k + 1)) = noCall (l.take k) ++ [t] := by
  unfold noCall
  rw [take_succ_eq hx, List.filter_append]
  simp [h]
theorem noCall_no {l : List Tac} {k : Nat} {t : Tac} (hx : l[k]? = some t) (h : (t.op != 10) = false) : noCall (l.take (k + 1)) = noCall (l.take k) := by
  unfold noCall
  rw [take_succ_eq hx, List.filter_append]
  simp [h]
theorem noCall_len (l : List Tac) : (noCall l).length ≤ l.length := List.length_filter_le _ _
theorem noCall_take (l : List Tac) (k : Nat) : (noCall (l.take k)).length ≤ l.length := Nat.le_trans (noCall_len _) (by rw [List.length_take]; omega)
theorem stands_bad {f : BFunc} {k j : Nat} {x : Block} {t : Tac} (hx : f.blocks[k]? = some x) (ht : x.ins[j]? = some t) (h : t.callOk = false) : f.stands = false := by
  unfold BFunc.stands
  rw [all_bad hx (p := fun x : Block => x.ins.all Tac.callOk) (all_bad ht h)]; rfl
theorem stands_all {f : BFunc} (h : f.blocks.all (fun x => x.ins.all Tac.callOk) = true) : f.stands = (Blocks.mk 1048576 [f.bare]).right := by
  unfold BFunc.stands; rw [h]; rfl
theorem bare_get {f : BFunc} {k : Nat} {x : Block} (h : f.blocks[k]? = some x) : (f.blocks.map Block.bare)[k]? = some x.bare := by simp [h]
structure Standing (f : BFunc) : Prop where
  r0 : 0 ≤ f.regs
  r1 : f.regs ≤ 4000
  ne : f.blocks.length ≠ 0
  tacs : ∀ x ∈ f.blocks, ∀ t ∈ x.ins, isW t.n → TacV t f.regs.toNat
  fin : ∀ x ∈ f.blocks, x.fin = 1 ∨ x.fin = 2 ∨ x.fin = 3
  v : ∀ x ∈ f.blocks, x.fin = 2 → 0 ≤ x.v ∧ x.v < f.regs
  next : ∀ x ∈ f.blocks, ∀ k ∈ x.nexts, 0 ≤ k ∧ k < f.blocks.length
theorem stands_of {f : BFunc} (h : f.stands = true) : Standing f := by
  unfold BFunc.stands at h
  rw [Bool.and_eq_true] at h
  obtain ⟨h1, h2⟩ := h
  simp only [Blocks.right, Bool.and_eq_true, decide_eq_true_eq, List.all_eq_true] at h2
  have h3 := h2.2.2.2 (f.bare, 0) (by simp)
  simp only [BFunc.one, Bool.and_eq_true, decide_eq_true_eq, Bool.not_eq_true', List.isEmpty_eq_false_iff, List.all_eq_true, BFunc.bare, List.length_map] at h3
  obtain ⟨a1, a2, a3, a4⟩ := h3
  have hb : ∀ x ∈ f.blocks, x.ends f.blocks.length f.regs = true ∧ ∀ t ∈ noCall x.ins, t.fits 0 f.regs 1048576 = true := fun x hx => by
    have := a4 x.bare (List.mem_map.2 ⟨x, hx, rfl⟩)
    unfold Block.ok at this
    rw [Bool.and_eq_true, List.all_eq_true] at this
    exact this
  have hend : ∀ x ∈ f.blocks, (x.fin = 1 ∧ within x.to f.blocks.length = true) ∨ (x.fin = 2 ∧ within x.to f.blocks.length = true ∧ within x.els f.blocks.length = true ∧ within x.v f.regs = true) ∨ x.fin = 3 := fun x hx => by
    have he := (hb x hx).1
    unfold Block.ends at he
    cases e1 : x.fin == 1 with
    | true => rw [e1] at he; simp only [cond_true, Bool.and_eq_true] at he; exact .inl ⟨by simpa using e1, he.1⟩
    | false =>
      cases e2 : x.fin == 2 with
      | true => rw [e1, e2] at he; simp only [cond_true, cond_false, Bool.and_eq_true] at he; exact .inr (.inl ⟨by simpa using e2, he.1, he.2.1, he.2.2⟩)
      | false => rw [e1, e2] at he; simp only [cond_false, Bool.and_eq_true, beq_iff_eq] at he; exact .inr (.inr he.1)
  have hw : ∀ {i n : Int}, within i n = true → 0 ≤ i ∧ i < n := fun {i n} h => by simpa [within] using h
  refine ⟨of_decide_eq_true a1, of_decide_eq_true a2, fun e => a3 (by simp [List.eq_nil_of_length_eq_zero e]), fun x hx t ht hn => ?_, fun x hx => ?_, fun x hx hf => ?_, fun x hx k hk => ?_⟩
  · by_cases h10 : t.op = 10
    · exact ⟨(fun h => by rw [h10] at h; cases h), (fun h => by rw [h10] at h; rcases h with h | h <;> cases h), (fun h => by rw [h10] at h; cases h), hn⟩
    · have hf := (hb x hx).2 t (List.mem_filter.2 ⟨ht, by simpa using h10⟩)
      have hi := tacIn_of hf
      exact ⟨hi.d, hi.a, hi.b, hn⟩
  · rcases hend x hx with h | h | h
    · exact .inl h.1
    · exact .inr (.inl h.1)
    · exact .inr (.inr h)
  · rcases hend x hx with h | h | h
    · exact absurd (hf.symm.trans h.1) (by decide)
    · exact hw h.2.2.2
    · exact absurd (hf.symm.trans h) (by decide)
  · rcases hend x hx with h | h | h
    · rw [Block.nexts, show (x.fin == 1) = true by simp [h.1]] at hk
      simp only [cond_true, List.mem_singleton] at hk
      rw [hk]; exact hw h.2
    · rw [Block.nexts, show (x.fin == 1) = false by simp [h.1], show (x.fin == 2) = true by simp [h.1]] at hk
      simp only [cond_true, cond_false, List.mem_cons, List.not_mem_nil, or_false] at hk
      rcases hk with rfl | rfl
      · exact hw h.2.1
      · exact hw h.2.2.1
    · rw [Block.nexts, show (x.fin == 1) = false by simp [h], show (x.fin == 2) = false by simp [h]] at hk
      simp at hk
theorem nexts_short (x : Block) : x.nexts.length ≤ 100000 := by
  unfold Block.nexts
  cases x.fin == 1 <;> cases x.fin == 2 <;> simp
theorem zip_at {α β : Type} {l : List α} {m : List β} {k : Nat} {x : α} {y : β} (hx : l[k]? = some x) (hy : m[k]? = some y) : (l.zip m)[k]? = some (x, y) := by
  rw [List.getElem?_zip_eq_some]; exact ⟨hx, hy⟩
theorem vshaped_regs {old new : BFunc} (h : (old.regs != new.regs) = true) : vshaped old new = false := by
  unfold vshaped; rw [decide_eq_false (by simpa using h)]; rfl
theorem vshaped_len {old new : BFunc} (h : ¬ old.blocks.length = new.blocks.length) : vshaped old new = false := by
  unfold vshaped; rw [decide_eq_false h]; simp
theorem vshaped_s1 {old new : BFunc} (h : old.stands = false) : vshaped old new = false := by unfold vshaped; rw [h]; simp
theorem vshaped_s2 {old new : BFunc} (h : new.stands = false) : vshaped old new = false := by unfold vshaped; rw [h]; simp
theorem vshaped_b {old new : BFunc} {k : Nat} {x y : Block} (hx : old.blocks[k]? = some x) (hy : new.blocks[k]? = some y) (h : shapeB x y = false) : vshaped old new = false := by
  unfold vshaped
  rw [all_bad (zip_at hx hy) (p := fun p : Block × Block => shapeB p.1 p.2) h]; simp
theorem vshaped_yes {old new : BFunc} (h1 : old.regs = new.regs) (h2 : old.blocks.length = new.blocks.length) (h3 : old.stands = true) (h4 : new.stands = true) (h5 : ((old.blocks.zip new.blocks).all fun p => shapeB p.1 p.2) = true) : vshaped old new = true := by
  unfold vshaped
  rw [decide_eq_true h1, decide_eq_true h2, h3, h4, h5]; rfl
theorem vshaped_len' {old new : BFunc} (h : ((((old.blocks.map Block.cells).length : Nat) : Int) != (((new.blocks.map Block.cells).length : Nat) : Int)) = true) : vshaped old new = false :=
  vshaped_len (fun e => by rw [List.length_map, List.length_map, e] at h; simp at h)
theorem len_eq' {old new : BFunc} (h : ((((old.blocks.map Block.cells).length : Nat) : Int) != (((new.blocks.map Block.cells).length : Nat) : Int)) = false) : old.blocks.length = new.blocks.length := by
  rw [List.length_map, List.length_map] at h
  have := bne_eq' h
  omega
theorem shape_f {x y : Block} (h : (x.fin != y.fin) = true) : shapeB x y = false := by
  unfold shapeB; rw [show (x.fin == y.fin) = false by simpa using h]; rfl
theorem shape_t {x y : Block} (h : (x.to != y.to) = true) : shapeB x y = false := by
  unfold shapeB; rw [show (x.to == y.to) = false by simpa using h]; simp
theorem shape_e {x y : Block} (h : (x.els != y.els) = true) : shapeB x y = false := by
  unfold shapeB; rw [show (x.els == y.els) = false by simpa using h]; simp
theorem shape_y {x y : Block} (h1 : (x.fin != y.fin) = false) (h2 : (x.to != y.to) = false) (h3 : (x.els != y.els) = false) : shapeB x y = true := by
  unfold shapeB; rw [bne_eq' h1, bne_eq' h2, bne_eq' h3]; simp
theorem vcheck_no1 {old new : BFunc} {c : Cert} (h : vshaped old new = false) : vcheck old new c = false := by unfold vcheck; rw [h]; rfl
theorem vcheck_no2 {old new : BFunc} {c : Cert} (h : ((((c.same.map fun r => [boolsAV r]).length : Nat) : Int) != (((old.blocks.map Block.cells).length : Nat) : Int)) = true) : vcheck old new c = false := by
  unfold vcheck
  rw [decide_eq_false (fun e => by rw [List.length_map, List.length_map, e] at h; simp at h : ¬ c.same.length = old.blocks.length)]
  simp
theorem cert_len {old : BFunc} {c : Cert} (h : ((((c.same.map fun r => [boolsAV r]).length : Nat) : Int) != (((old.blocks.map Block.cells).length : Nat) : Int)) = false) : c.same.length = old.blocks.length := by
  rw [List.length_map, List.length_map] at h
  have := bne_eq' h
  omega
theorem vcheck_no3 {old new : BFunc} {c : Cert} {k : Nat} {r : List Bool} (hr : c.same[k]? = some r) (h : ¬ (r.length : Int) = old.regs) : vcheck old new c = false := by
  unfold vcheck
  rw [all_bad hr (p := fun r : List Bool => decide ((r.length : Int) = old.regs)) (decide_eq_false h)]
  simp
theorem vcheck_no4 {old new : BFunc} {c : Cert} {k : Nat} {x y : Block} (hx : old.blocks[k]? = some x) (hy : new.blocks[k]? = some y) (h : vsame old.regs.toNat x y c (k : Int) x.nexts = false) : vcheck old new c = false := by
  unfold vcheck vblocks
  rw [all_bad (zipIdx_get (zip_at hx hy)) (p := fun p : (Block × Block) × Nat => vsame old.regs.toNat p.1.1 p.1.2 c (p.2 : Int) p.1.1.nexts) h]
  simp
theorem vcheck_yes {old new : BFunc} {c : Cert} (h1 : vshaped old new = true) (h2 : c.same.length = old.blocks.length) (h3 : (c.same.all fun r => decide ((r.length : Int) = old.regs)) = true) (h4 : vblocks old new c = true) : vcheck old new c = true := by
  unfold vcheck
  rw [h1, decide_eq_true h2, h3, h4]; rfl
structure VShape (old new : BFunc) : Prop where
  regs : old.regs = new.regs
  len : old.blocks.length = new.blocks.length
  so : old.stands = true
  sn : new.stands = true
  b : ∀ (k : Nat) (x y : Block), old.blocks[k]? = some x → new.blocks[k]? = some y → x.fin = y.fin ∧ x.to = y.to ∧ x.els = y.els
theorem vshaped_of {old new : BFunc} (h : vshaped old new = true) : VShape old new := by
  simp only [vshaped, Bool.and_eq_true, decide_eq_true_eq, List.all_eq_true] at h
  refine ⟨h.1, h.2.1, h.2.2.1, h.2.2.2.1, fun k x y hx hy => ?_⟩
  have := h.2.2.2.2 (x, y) (List.mem_of_getElem? (zip_at hx hy))
  simpa [shapeB] using this
section
variable {P : Program} {T : Nat → Option TyI} {o : Oper} {e : AEnv} {h : AHeap}
theorem places_run (hT : TOk P T) {w : World} : ∀ {fl : List Field}, (∀ f ∈ fl, ∃ i', T f.type = some i') →
    ∃ l : List (Nat × Nat), (fl.mapM fun f => (do pure (f.offset, ← sizeOf f.type) : Sem (Nat × Nat))).run P w = .ok l w ∧ ∀ (i off t : Nat), (fl.map fun f => (f.offset, f.type))[i]? = some (off, t) → ∃ i', T t = some i' ∧ l[i]? = some (off, i'.size)
  | [], _ => ⟨[], by simp, fun i off t h => by simp at h⟩
  | f :: fl, hk => by
    obtain ⟨l, h1, h2⟩ := places_run hT (w := w) (fl := fl) (fun g hg => hk g (by simp [hg]))
    obtain ⟨i', hi'⟩ := hk f (by simp)
    obtain ⟨info', d', c1, c2, c3, c4, _⟩ := tyOf_spec (hT _ _ hi')
    refine ⟨(f.offset, i'.size) :: l, ?_, fun k off t h3 => ?_⟩
    · rw [List.mapM_cons]
      simp only [Sem.run_bind, run_isz c1, Result.andThen_ok, Sem.run_pure, h1, c4]
    · cases k with
      | zero => simp at h3; obtain ⟨rfl, rfl⟩ := h3; exact ⟨i', hi', rfl⟩
      | succ k => simp only [List.map_cons, List.getElem?_cons_succ] at h3 ⊢; exact h2 k off t h3
theorem one_cell {H : Know} {ι : Lay} {x : AV} {v : Value} (h : Rel H ι x v) (hc : x.cell1 = true) : ∃ u, v.cells = #[u] ∧ Rel H ι x u := by
  obtain ⟨c1, c2⟩ := cells_rel h
  have hx : x.cells = [x] := by cases x <;> first | rfl | cases hc
  rw [hx] at c1 c2
  have hs : v.cells.size = 1 := by simpa using c1.symm
  obtain ⟨u, hu⟩ := getElem?_some_of_lt (c := v.cells) (j := 0) (by omega)
  refine ⟨u, ?_, c2 0 x u rfl hu⟩
  apply Array.ext
  · simp [hs]
  · intro j h1 h2
    have : j = 0 := by omega
    subst this
    rw [Array.getElem?_eq_getElem h1] at hu
    simpa using hu
theorem q_buildM (hT : TOk P T) {t : TypeId} {parts : Array (Nat × Operand)} {i i0 i1 i2 : TyI} {x y : AV} {t0 t1 t2 : Nat} {z0 z1 : Value} (ho : o.op = .build t parts) (hx : lookParts e parts.toList = some [(0, x), (1, y)]) (hi : T t = some i) (hk : i.k = .struct [(0, t0), (1, t1), (2, t2)])
    (h0 : T t0 = some i0) (h1 : T t1 = some i1) (h2 : T t2 = some i2) (s0 : i0.size = 1) (s1 : i1.size = 1) (hz : (P.info? t).bind (·.zero) = some (.agg #[z0, z1, .slice none 0 0])) (hx1 : x.cell1 = true) (hy1 : y.cell1 = true) : QLoc P o e h [] (.agg [x, y, .nil]) := by
  intro H ι a w s hs g1 g2
  have hx' : lookParts s.env parts.toList = some [(0, x), (1, y)] := by
    rw [lookParts_agree (e := e) (fun x hx => g1 x z24q)]; exact hx
  obtain ⟨l1, l2⟩ := lookParts_rel hs hx'
  obtain ⟨info, d, e1, e2, e3, e4, e5, e6⟩ := tyOf_spec (hT _ _ hi)
  obtain ⟨A, rfl, hA, hzz⟩ := tk_struct (P := P) (d := d) (e3 ▸ hk)
  have hzv : info.zero = some (.agg #[z0, z1, .slice none 0 0]) := by rw [e1] at hz; exact hz
  obtain ⟨l, k1, k2⟩ := places_run hT (w := w) (fl := A.toList) (fun f hf => by
    have hm : (f.offset, f.type) ∈ A.toList.map fun f => (f.offset, f.type) := List.mem_map.2 ⟨f, hf, rfl⟩
    rw [← hA] at hm
    simp only [List.mem_cons, Prod.mk.injEq, List.not_mem_nil, or_false] at hm
    rcases hm with ⟨_, q⟩ | ⟨_, q⟩ | ⟨_, q⟩ <;> rw [q]
    · exact ⟨_, h0⟩
    · exact ⟨_, h1⟩
    · exact ⟨_, h2⟩)
  have hpl : (A.mapM fun f => (do pure (f.offset, ← sizeOf f.type) : Sem (Nat × Nat))).run P w = .ok l.toArray w := by
    rw [Array.mapM_eq_mapM_toList]
    simp only [Sem.run_map, k1]
    rfl
  obtain ⟨j0, q0, p0⟩ := k2 0 0 t0 (by rw [← hA]; rfl)
  obtain ⟨j1, q1, p1⟩ := k2 1 1 t1 (by rw [← hA]; rfl)
  rw [h0] at q0; cases q0
  rw [h1] at q1; cases q1
  rw [s0] at p0
  rw [s1] at p1
  generalize hpp : parts.toList = pl at l1 l2 hx'
  match pl, l1 with
  | [(n0, x0), (n1, x1)], _ =>
    obtain ⟨a1, a2⟩ := l2 0 (0, x) (n0, a.eval x0) rfl rfl
    obtain ⟨b1, b2⟩ := l2 1 (1, y) (n1, a.eval x1) rfl rfl
    simp only at a1 a2 b1 b2
    subst a1; subst b1
    obtain ⟨u0, c0, d0⟩ := one_cell a2 hx1
    obtain ⟨u1, c1, d1⟩ := one_cell b2 hy1
    have hfill : Instr.fill (l.toArray[·]?) #[z0, z1, .slice none 0 0] [(0, a.eval x0), (1, a.eval x1)] = some #[u0, u1, .slice none 0 0] := by
      simp [Instr.fill, p0, p1, c0, c1]
    have hparts : (parts.map fun (i, x) => (i, a.eval x)).toList = [(0, a.eval x0), (1, a.eval x1)] := by simp [hpp]
    refine ⟨.agg #[u0, u1, .slice none 0 0], .agg _ _ _ rfl (fun j z v hz hv => ?_), ?_⟩
    · match j, hz, hv with
      | 0, hz, hv => simp at hz hv; subst hz; subst hv; exact d0
      | 1, hz, hv => simp at hz hv; subst hz; subst hv; exact d1
      | 2, hz, hv => simp at hz hv; subst hz; subst hv; exact .nil _
      | j + 3, hz, hv => simp at hz
    · simp only [execOp, ho, Instr.build, zeroValue, typeInfo, Sem.run_bind, run_program, Result.andThen_ok, e1, hzv, Sem.run_pure, run_underlying' e2, hpl, hparts, Value.cells, hfill]
theorem q_indexV2 (hT : TOk P T) {t : TypeId} {x y : Operand} {b : Nat} {es es' : List (List AV)} {k : IntKind} {n : Int} {i j : TyI} {u : Nat} (ho : o.op = .indexAddr t x y) (hx : look e x = some (vaA b es')) (hy : look e y = some (.int k n))
    (hi : T t = some i) (hk : i.k = .slice u) (hj : T u = some j) (hb : h b = some (vaO es)) (hsz : 1 = j.size) (hl : es.length = es'.length) (h0 : 0 ≤ n) (hn : n < es.length) : QLoc P o e h [b] (.ptr b es.length n.toNat 0) :=
  q_indexV hT ho (by rw [hx, vaA_len hl]) hy hi hk hj hb hsz h0 hn
end
structure RVal where
  kind : Int
  op : Int
  a : Int
  b : Int
  name : Int
  side : Int
  base : Int
  time : Int
  n : Int
  deriving DecidableEq
def RVal.cells (v : RVal) : List AV := [.int .i64 v.kind, .int .i64 v.op, .int .i64 v.a, .int .i64 v.b, .int .i64 v.name, .int .i64 v.side, .int .i64 v.base, .int .i64 v.time, .int .u32 v.n]
def RVal.same (x y : RVal) : Bool := x.kind == y.kind && (x.op == y.op && (x.a == y.a && (x.b == y.b && (x.name == y.name && (x.side == y.side && (x.base == y.base && (x.time == y.time && (x.n == y.n && true))))))))
theorem RVal.same_iff (x y : RVal) : x.same y = true ↔ x = y := by
  obtain ⟨a1, a2, a3, a4, a5, a6, a7, a8, a9⟩ := x
  obtain ⟨b1, b2, b3, b4, b5, b6, b7, b8, b9⟩ := y
  simp [RVal.same, RVal.mk.injEq]
structure REff where
  op : Int
  k : Int
  base : Int
  size : Int
  a : Int
  b : Int
  deriving DecidableEq
def REff.cells (v : REff) : List AV := [.int .i64 v.op, .int .i64 v.k, .int .i64 v.base, .int .i64 v.size, .int .i64 v.a, .int .i64 v.b]
def REff.same (x y : REff) : Bool := x.op == y.op && (x.k == y.k && (x.base == y.base && (x.size == y.size && (x.a == y.a && (x.b == y.b && true)))))
theorem REff.same_iff (x y : REff) : x.same y = true ↔ x = y := by
  obtain ⟨a1, a2, a3, a4, a5, a6⟩ := x
  obtain ⟨b1, b2, b3, b4, b5, b6⟩ := y
  simp [REff.same, REff.mk.injEq]
def ridx (v : RVal) : List RVal → Option Nat
  | [] => none
  | x :: r => bif x.same v then some 0 else (ridx v r).map (· + 1)
def rnum (L : List RVal) (v : RVal) : Int × List RVal := match ridx v L with
  | some i => ((i : Int), L)
  | none => ((L.length : Int), L ++ [v])
theorem ridx_lt {v : RVal} : ∀ {L : List RVal} {i : Nat}, ridx v L = some i → i < L.length ∧ L[i]? = some v
  | [], i, h => by cases h
  | x :: r, i, h => by
    unfold ridx at h
    cases hx : x.same v with
    | true => rw [hx] at h; cases h; exact ⟨by simp, by rw [(RVal.same_iff x v).1 hx]; rfl⟩
    | false =>
      rw [hx] at h
      simp only [cond_false, Option.map_eq_some_iff] at h
      obtain ⟨j, hj, rfl⟩ := h
      obtain ⟨h1, h2⟩ := ridx_lt hj
      exact ⟨by simp; omega, by simpa using h2⟩
theorem rnum_new {v : RVal} {L : List RVal} (h : ridx v L = none) : rnum L v = ((L.length : Int), L ++ [v]) := by unfold rnum; rw [h]
theorem rnum_old {v : RVal} {L : List RVal} {i : Nat} (h : ridx v L = some i) : rnum L v = ((i : Int), L) := by unfold rnum; rw [h]
theorem rnum_ok {v : RVal} {L : List RVal} : L.length ≤ (rnum L v).2.length ∧ (rnum L v).2.length ≤ L.length + 1 ∧ 0 ≤ (rnum L v).1 ∧ (rnum L v).1 < (rnum L v).2.length := by
  cases e : ridx v L with
  | none => rw [rnum_new e]; simp; omega
  | some i =>
    rw [rnum_old e]
    have := (ridx_lt e).1
    exact ⟨Nat.le_refl _, Nat.le_succ _, by dsimp only; omega, by dsimp only; omega⟩
def rval (L : List RVal) (i : Int) : RVal := (L[i.toNat]?).getD ⟨0, 0, 0, 0, 0, 0, 0, 0, 0⟩
def rconst (L : List RVal) (i : Int) : Int × Bool := ((rval L i).n, (rval L i).kind == 1)
theorem rval_n {L : List RVal} (hL : ∀ v ∈ L, isW v.n) (i : Int) : isW (rval L i).n := by
  unfold rval
  cases e : L[i.toNat]? with
  | none => exact isW_zero
  | some v => exact hL v (List.mem_of_getElem? e)
structure RW where
  L : List RVal
  regs : List Int
  out : List REff
  time : Int
def RW.put (w : RW) (z : Int) (p : Int × List RVal) : RW := { w with L := p.2, regs := rset w.regs z p.1 }
def RW.eff (w : RW) (e : REff) : RW := { w with out := w.out ++ [e] }
def RW.tick (w : RW) : RW := { w with time := w.time + 1 }
def rrisky (w : RW) (t : Tac) : Bool := (t.k == 7 || t.k == 8) && (!(rconst w.L (rget w.regs t.b)).2 || (rconst w.L (rget w.regs t.b)).1 == 0)
def RW.div (w : RW) (t : Tac) : RW := bif rrisky w t then w.eff ⟨t.op, t.k, 0, 0, rget w.regs t.a, rget w.regs t.b⟩ else w
def rfold (w : RW) (t : Tac) : Bool := (rconst w.L (rget w.regs t.a)).2 && ((rconst w.L (rget w.regs t.b)).2 && !rrisky w t)
def rapplyV (w : RW) (t : Tac) : RVal := bif rfold w t then ⟨1, 0, 0, 0, 0, 0, 0, 0, (wapp t.k (rconst w.L (rget w.regs t.a)).1 (rconst w.L (rget w.regs t.b)).1).1⟩ else ⟨3, t.k, rget w.regs t.a, rget w.regs t.b, 0, 0, 0, 0, 0⟩
def RW.bin (w : RW) (t : Tac) : RW := (w.div t).put t.d (rnum w.L (rapplyV w t))
def runkV (n : Nat) : RVal := ⟨2, 0, 0, 0, (n : Int), 2, 0, 0, 0⟩
def RW.get (w : RW) (t : Tac) (e : REff) : RW := (w.eff e).put t.d (rnum w.L (runkV w.out.length))
def RW.step (w : RW) (t : Tac) : RW :=
  bif t.op == 1 then w.put t.d (rnum w.L ⟨1, 0, 0, 0, 0, 0, 0, 0, t.n⟩)
  else bif t.op == 2 then { w with regs := rset w.regs t.d (rget w.regs t.a) }
  else bif t.op == 3 then w.bin t
  else bif t.op == 4 then w.put t.d (rnum w.L ⟨4, 0, 0, 0, 0, 0, t.base, w.time, 0⟩)
  else bif t.op == 5 then (w.eff ⟨t.op, 0, t.base, 0, rget w.regs t.a, 0⟩).tick
  else bif t.op == 6 then w.get t ⟨t.op, 0, t.base, t.size, rget w.regs t.a, 0⟩
  else bif t.op == 7 then (w.eff ⟨t.op, 0, t.base, t.size, rget w.regs t.a, rget w.regs t.b⟩).tick
  else bif t.op == 8 then w.get t ⟨t.op, 0, 0, 0, 0, 0⟩
  else bif t.op == 9 then w.eff ⟨t.op, 0, 0, 0, rget w.regs t.a, 0⟩
  else (w.eff ⟨t.op, 0, t.base, 0, 0, 0⟩).tick
structure ROk (R m : Nat) (w : RW) : Prop where
  wn : ∀ v ∈ w.L, isW v.n
  kl : w.L.length ≤ m
  el : w.out.length ≤ m
  tl : 0 ≤ w.time ∧ w.time ≤ m
  vl : w.regs.length = R
  v : ∀ n ∈ w.regs, 0 ≤ n ∧ n < w.L.length
theorem ROk.mono {R m m' : Nat} {w : RW} (h : ROk R m w) (hm : m ≤ m') : ROk R m' w :=
  ⟨h.wn, Nat.le_trans h.kl hm, Nat.le_trans h.el hm, ⟨h.tl.1, by have := h.tl.2; omega⟩, h.vl, h.v⟩
theorem rnum_w {v : RVal} {L : List RVal} (hL : ∀ v ∈ L, isW v.n) (hv : isW v.n) : ∀ x ∈ (rnum L v).2, isW x.n := by
  cases e : ridx v L with
  | none =>
    rw [rnum_new e]
    intro x hx
    simp only [List.mem_append, List.mem_singleton] at hx
    rcases hx with hx | rfl
    · exact hL x hx
    · exact hv
  | some i => rw [rnum_old e]; exact hL
theorem ROk.put {R m : Nat} {w : RW} (h : ROk R m w) (z : Int) {v : RVal} (hv : isW v.n) : ROk R (m + 1) (w.put z (rnum w.L v)) where
  wn := rnum_w h.wn hv
  kl := by have := h.kl; have := (rnum_ok (v := v) (L := w.L)).2.1; show (rnum w.L v).2.length ≤ _; omega
  el := by have := h.el; show w.out.length ≤ _; omega
  tl := ⟨h.tl.1, by have := h.tl.2; show w.time ≤ _; omega⟩
  vl := by show (rset w.regs z _).length = R; rw [rset_length]; exact h.vl
  v := fun n hn => by
    have hn' : n ∈ rset w.regs z (rnum w.L v).1 := hn
    unfold rset at hn'
    show 0 ≤ n ∧ n < ((rnum w.L v).2.length : Int)
    have hp := rnum_ok (v := v) (L := w.L)
    rcases List.mem_or_eq_of_mem_set hn' with hn' | rfl
    · have := h.v n hn'; omega
    · exact hp.2.2
theorem ROk.eff {R m : Nat} {w : RW} (h : ROk R m w) (e : REff) : ROk R (m + 1) (w.eff e) where
  wn := h.wn
  kl := by have := h.kl; show w.L.length ≤ _; omega
  el := by have := h.el; show (w.out ++ [e]).length ≤ _; simp; omega
  tl := ⟨h.tl.1, by have := h.tl.2; show w.time ≤ _; omega⟩
  vl := h.vl
  v := h.v
theorem ROk.tick {R m : Nat} {w : RW} (h : ROk R m w) : ROk R (m + 1) w.tick where
  wn := h.wn
  kl := by have := h.kl; show w.L.length ≤ _; omega
  el := by have := h.el; show w.out.length ≤ _; omega
  tl := ⟨by have := h.tl.1; show 0 ≤ w.time + 1; omega, by have := h.tl.2; show w.time + 1 ≤ _; push_cast; omega⟩
  vl := h.vl
  v := h.v
theorem ROk.div {R m : Nat} {w : RW} (h : ROk R m w) (t : Tac) : ROk R (m + 1) (w.div t) := by
  unfold RW.div
  cases rrisky w t with
  | true => exact h.eff _
  | false => exact h.mono (Nat.le_succ _)
theorem rdiv_L (w : RW) (t : Tac) : (w.div t).L = w.L := by unfold RW.div; cases rrisky w t <;> rfl
theorem rapplyV_w {w : RW} (hL : ∀ v ∈ w.L, isW v.n) (t : Tac) : isW (rapplyV w t).n := by
  unfold rapplyV
  cases rfold w t with
  | true => exact wapp_word (rval_n hL _) (rval_n hL _)
  | false => exact isW_zero
theorem ROk.at {R m : Nat} {w : RW} (h : ROk R m w) {z : Int} (hz : 0 ≤ z ∧ z < R) : 0 ≤ z ∧ z < w.regs.length ∧ z < ((valC w.regs).length : Int) ∧ 0 ≤ rget w.regs z ∧ rget w.regs z < w.L.length := by
  have h1 := h.vl
  have h2 := h.v _ (rget_in (z := z) (by rw [h1]; exact hz))
  rw [valC_len, h1]
  exact ⟨hz.1, hz.2, hz.2, h2.1, h2.2⟩
theorem ROk.bin {R m : Nat} {w : RW} (h : ROk R m w) (t : Tac) : ROk R (m + 2) (w.bin t) := by
  have h1 := (h.div t).put t.d (rapplyV_w h.wn t)
  rw [rdiv_L] at h1
  exact h1
theorem ROk.get {R m : Nat} {w : RW} (h : ROk R m w) (t : Tac) (e : REff) : ROk R (m + 2) (w.get t e) := ROk.put (h.eff e) t.d (v := runkV w.out.length) isW_zero
theorem ROk.step {R m : Nat} {w : RW} (h : ROk R m w) {t : Tac} (ht : TacV t R) : ROk R (m + 2) (w.step t) := by
  unfold RW.step
  cases t.op == 1 with
  | true => exact (h.put _ ht.n).mono (Nat.le_succ _)
  | false =>
  cases h2 : t.op == 2 with
  | true =>
    have h2' : t.op = 2 := by simpa using h2
    refine ROk.mono (m := m) ⟨h.wn, h.kl, h.el, h.tl, ?_, fun n hn => ?_⟩ (by omega)
    · show (rset w.regs t.d _).length = R; rw [rset_length]; exact h.vl
    · have hn' : n ∈ rset w.regs t.d (rget w.regs t.a) := hn
      unfold rset at hn'
      rcases List.mem_or_eq_of_mem_set hn' with hn' | rfl
      · exact h.v n hn'
      · have := ht.a (.inl (by simp [use1, h2']))
        exact h.v _ (rget_in (by rw [h.vl]; exact this))
  | false =>
  cases t.op == 3 with
  | true => exact h.bin t
  | false =>
  cases t.op == 4 with
  | true => exact (h.put _ (v := ⟨4, 0, 0, 0, 0, 0, _, _, 0⟩) isW_zero).mono (Nat.le_succ _)
  | false =>
  cases t.op == 5 with
  | true => exact ROk.tick (h.eff _)
  | false =>
  cases t.op == 6 with
  | true => exact h.get t _
  | false =>
  cases t.op == 7 with
  | true => exact ROk.tick (h.eff _)
  | false =>
  cases t.op == 8 with
  | true => exact h.get t _
  | false =>
  cases t.op == 9 with
  | true => exact (h.eff _).mono (Nat.le_succ _)
  | false => exact ROk.tick (h.eff _)
section
variable {P : Program} {T : Nat → Option TyI} {o : Oper} {e : AEnv} {h : AHeap}
end
theorem rapplyV_c {w : RW} {t : Tac} (h : rfold w t = true) : rapplyV w t = ⟨1, 0, 0, 0, 0, 0, 0, 0, (wapp t.k (rconst w.L (rget w.regs t.a)).1 (rconst w.L (rget w.regs t.b)).1).1⟩ := by unfold rapplyV; rw [h]; rfl
theorem rapplyV_o {w : RW} {t : Tac} (h : rfold w t = false) : rapplyV w t = ⟨3, t.k, rget w.regs t.a, rget w.regs t.b, 0, 0, 0, 0, 0⟩ := by unfold rapplyV; rw [h]; rfl
def RVal.reg (v : Nat) (side : Int) : RVal := ⟨2, 0, 0, 0, (v : Int), side, 0, 0, 0⟩
section
variable {R : Nat} {old new : Block} {c : Cert} {i : Int} {next : List Int}
end
section
variable {P : Program} {T : Nat → Option TyI} {h : AHeap}
end
theorem rstep1 {w : RW} {t : Tac} (ho : t.op = 1) : w.step t = w.put t.d (rnum w.L ⟨1, 0, 0, 0, 0, 0, 0, 0, t.n⟩) := by
  unfold RW.step
  rw [ho]; rfl
theorem rstep2 {w : RW} {t : Tac} (ho : t.op = 2) : w.step t = { w with regs := rset w.regs t.d (rget w.regs t.a) } := by
  unfold RW.step
  rw [ho]; rfl
theorem rstep3 {w : RW} {t : Tac} (ho : t.op = 3) : w.step t = w.bin t := by
  unfold RW.step
  rw [ho]; rfl
theorem rstep4 {w : RW} {t : Tac} (ho : t.op = 4) : w.step t = w.put t.d (rnum w.L ⟨4, 0, 0, 0, 0, 0, t.base, w.time, 0⟩) := by
  unfold RW.step
  rw [ho]; rfl
theorem rstep5 {w : RW} {t : Tac} (ho : t.op = 5) : w.step t = (w.eff ⟨t.op, 0, t.base, 0, rget w.regs t.a, 0⟩).tick := by
  unfold RW.step
  rw [ho]; rfl
theorem rstep6 {w : RW} {t : Tac} (ho : t.op = 6) : w.step t = w.get t ⟨t.op, 0, t.base, t.size, rget w.regs t.a, 0⟩ := by
  unfold RW.step
  rw [ho]; rfl
theorem rstep7 {w : RW} {t : Tac} (ho : t.op = 7) : w.step t = (w.eff ⟨t.op, 0, t.base, t.size, rget w.regs t.a, rget w.regs t.b⟩).tick := by
  unfold RW.step
  rw [ho]; rfl
theorem rstep8 {w : RW} {t : Tac} (ho : t.op = 8) : w.step t = w.get t ⟨t.op, 0, 0, 0, 0, 0⟩ := by
  unfold RW.step
  rw [ho]; rfl
theorem rstep9 {w : RW} {t : Tac} (ho : t.op = 9) : w.step t = w.eff ⟨t.op, 0, 0, 0, rget w.regs t.a, 0⟩ := by
  unfold RW.step
  rw [ho]; rfl
theorem rstep0 {w : RW} {t : Tac} (h1 : (t.op == 1) = false) (h2 : (t.op == 2) = false) (h3 : (t.op == 3) = false) (h4 : (t.op == 4) = false) (h5 : (t.op == 5) = false) (h6 : (t.op == 6) = false) (h7 : (t.op == 7) = false) (h8 : (t.op == 8) = false) (h9 : (t.op == 9) = false) : w.step t = (w.eff ⟨t.op, 0, t.base, 0, 0, 0⟩).tick := by
  unfold RW.step
  rw [h1, h2, h3, h4, h5, h6, h7, h8, h9]; rfl
inductive Tm where
  | old (v : Nat)
  | own (v : Nat)
  | cst (n : Int)
  | op (k : Int) (a b : Tm)
  | ld (base time : Int)
  | unk (n : Nat)
  deriving DecidableEq
structure SE where
  risk : Bool
  op : Int
  k : Int
  base : Int
  size : Int
  a : Option Tm
  b : Option Tm
  deriving DecidableEq
structure SS where
  regs : List Tm
  effs : List SE
  time : Int
def tget (l : List Tm) (z : Int) : Tm := (l[z.toNat]?).getD (.cst 0)
def tset (l : List Tm) (z : Int) (t : Tm) : List Tm := l.set z.toNat t
def Tm.isZero : Tm → Bool
  | .cst n => n == 0
  | _ => true
def trisky (k : Int) (b : Tm) : Bool := (k == 7 || k == 8) && b.isZero
def tfold (k : Int) (a b : Tm) : Tm := match a, b with
  | .cst x, .cst y => bif trisky k (.cst y) then .op k a b else .cst (wapp k x y).1
  | _, _ => .op k a b
def SS.put (s : SS) (z : Int) (t : Tm) : SS := { s with regs := tset s.regs z t }
def SS.eff (s : SS) (e : SE) : SS := { s with effs := s.effs ++ [e] }
def SS.tick (s : SS) : SS := { s with time := s.time + 1 }
def SS.div (s : SS) (t : Tac) : SS := bif trisky t.k (tget s.regs t.b) then s.eff ⟨true, 3, t.k, 0, 0, some (tget s.regs t.a), some (tget s.regs t.b)⟩ else s
def SS.bin (s : SS) (t : Tac) : SS := (s.div t).put t.d (tfold t.k (tget s.regs t.a) (tget s.regs t.b))
def SS.get (s : SS) (t : Tac) (e : SE) : SS := (s.eff e).put t.d (.unk s.effs.length)
def SS.step (s : SS) (t : Tac) : SS :=
  bif t.op == 1 then s.put t.d (.cst t.n)
  else bif t.op == 2 then s.put t.d (tget s.regs t.a)
  else bif t.op == 3 then s.bin t
  else bif t.op == 4 then s.put t.d (.ld t.base s.time)
  else bif t.op == 5 then (s.eff ⟨false, 5, 0, t.base, 0, some (tget s.regs t.a), none⟩).tick
  else bif t.op == 6 then s.get t ⟨false, 6, 0, t.base, t.size, some (tget s.regs t.a), none⟩
  else bif t.op == 7 then (s.eff ⟨false, 7, 0, t.base, t.size, some (tget s.regs t.a), some (tget s.regs t.b)⟩).tick
  else bif t.op == 8 then s.get t ⟨false, 8, 0, 0, 0, none, none⟩
  else bif t.op == 9 then s.eff ⟨false, 9, 0, 0, 0, some (tget s.regs t.a), none⟩
  else (s.eff ⟨false, 10, 0, t.base, 0, none, none⟩).tick
structure TacT (t : Tac) (R : Nat) : Prop extends TacV t R where
  op : 1 ≤ t.op ∧ t.op ≤ 10
  k : t.op = 3 → 4 ≤ t.k ∧ t.k ≤ 15
  want : t = t.want
def SE.wf (e : SE) : Prop := (e.risk = true ∧ e.op = 3 ∧ e.base = 0 ∧ e.size = 0 ∧ e.a.isSome ∧ e.b.isSome) ∨
  (e.risk = false ∧ e.k = 0 ∧ (e.op = 5 ∧ e.size = 0 ∧ e.a.isSome ∧ e.b = none ∨ e.op = 6 ∧ e.a.isSome ∧ e.b = none ∨ e.op = 7 ∧ e.a.isSome ∧ e.b.isSome ∨ e.op = 8 ∧ e.base = 0 ∧ e.size = 0 ∧ e.a = none ∧ e.b = none ∨ e.op = 9 ∧ e.base = 0 ∧ e.size = 0 ∧ e.a.isSome ∧ e.b = none ∨ e.op = 10 ∧ e.size = 0 ∧ e.a = none ∧ e.b = none))
def All2 {α β : Type} (r : α → β → Prop) : List α → List β → Prop
  | [], [] => True
  | x :: xs, y :: ys => r x y ∧ All2 r xs ys
  | _, _ => False
theorem All2.len {α β : Type} {r : α → β → Prop} : ∀ {l : List α} {m : List β}, All2 r l m → l.length = m.length
  | [], [], _ => rfl
  | x :: xs, y :: ys, h => by simp [All2.len h.2]
  | [], y :: ys, h => h.elim
  | x :: xs, [], h => h.elim
theorem All2.mono {α β : Type} {r r' : α → β → Prop} (hr : ∀ x y, r x y → r' x y) : ∀ {l : List α} {m : List β}, All2 r l m → All2 r' l m
  | [], [], _ => trivial
  | x :: xs, y :: ys, h => ⟨hr _ _ h.1, All2.mono hr h.2⟩
  | [], y :: ys, h => h.elim
  | x :: xs, [], h => h.elim
theorem All2.snoc {α β : Type} {r : α → β → Prop} {x : α} {y : β} (hx : r x y) : ∀ {l : List α} {m : List β}, All2 r l m → All2 r (l ++ [x]) (m ++ [y])
  | [], [], _ => ⟨hx, trivial⟩
  | a :: l, b :: m, h => ⟨h.1, All2.snoc hx h.2⟩
  | [], b :: m, h => h.elim
  | a :: l, [], h => h.elim
theorem All2.get {α β : Type} {r : α → β → Prop} : ∀ {l : List α} {m : List β}, All2 r l m → ∀ {i : Nat} {x : α} {y : β}, l[i]? = some x → m[i]? = some y → r x y
  | [], [], _, i, x, y, h1, _ => by simp at h1
  | a :: l, b :: m, h, 0, x, y, h1, h2 => by simp at h1 h2; subst h1; subst h2; exact h.1
  | a :: l, b :: m, h, i + 1, x, y, h1, h2 => All2.get h.2 (by simpa using h1) (by simpa using h2)
  | [], b :: m, h, _, _, _, _, _ => h.elim
  | a :: l, [], h, _, _, _, _, _ => h.elim
theorem All2.set {α β : Type} {r : α → β → Prop} {x : α} {y : β} (hx : r x y) : ∀ {l : List α} {m : List β} (i : Nat), All2 r l m → All2 r (l.set i x) (m.set i y)
  | [], [], _, _ => trivial
  | a :: l, b :: m, 0, h => ⟨hx, h.2⟩
  | a :: l, b :: m, i + 1, h => ⟨h.1, All2.set hx i h.2⟩
  | [], b :: m, _, h => h.elim
  | a :: l, [], _, h => h.elim
theorem nodup_inj {α : Type} {l : List α} (h : l.Nodup) {i j : Nat} {x : α} (hi : l[i]? = some x) (hj : l[j]? = some x) : i = j := by
  obtain ⟨h1, e1⟩ := List.getElem?_eq_some_iff.1 hi
  obtain ⟨h2, e2⟩ := List.getElem?_eq_some_iff.1 hj
  have hp := List.pairwise_iff_getElem.1 h
  rcases Nat.lt_trichotomy i j with hl | hl | hl
  · exact absurd (e1.trans e2.symm) (hp i j h1 h2 hl)
  · exact hl
  · exact absurd (e2.trans e1.symm) (hp j i h2 h1 hl)
theorem pre_get {α : Type} {l m : List α} (h : l <+: m) {i : Nat} {x : α} (hi : l[i]? = some x) : m[i]? = some x := by
  obtain ⟨r, rfl⟩ := h
  rw [List.getElem?_append_left (List.getElem?_eq_some_iff.1 hi).1]; exact hi
def VN (R : Nat) (ts : List Tm) : Tm → Int → Prop
  | .old v, n => n = (v : Int) ∧ v < R
  | .own v, n => n = ((R + v : Nat) : Int) ∧ v < R
  | t, n => ∃ i : Nat, ts[i]? = some t ∧ n = ((2 * R + i : Nat) : Int)
def VK (R : Nat) (ts : List Tm) : Tm → List Int → Prop
  | .cst n, k => k = [1, n, 0, 0]
  | .op o a b, k => ∃ x y, VN R ts a x ∧ VN R ts b y ∧ k = [2, o, x, y]
  | .ld b τ, k => k = [3, b, τ, 0]
  | .unk n, k => k = [4, (n : Int) + 1, 0, 0]
  | _, _ => False
structure VT (R : Nat) (ts : List Tm) (K : List (List Int)) : Prop where
  nd : ts.Nodup
  len : K.length = ts.length
  key : ∀ (i : Nat) (t : Tm) (k : List Int), ts[i]? = some t → K[i]? = some k → VK R ts t k
  word : ∀ (n : Int), Tm.cst n ∈ ts → isW n
section
variable {R : Nat} {ts ts' : List Tm} {K : List (List Int)}
theorem VN.ext (hp : ts <+: ts') : ∀ {t : Tm} {n : Int}, VN R ts t n → VN R ts' t n
  | .old _, _, h => h
  | .own _, _, h => h
  | .cst _, _, ⟨i, h1, h2⟩ => ⟨i, pre_get hp h1, h2⟩
  | .op _ _ _, _, ⟨i, h1, h2⟩ => ⟨i, pre_get hp h1, h2⟩
  | .ld _ _, _, ⟨i, h1, h2⟩ => ⟨i, pre_get hp h1, h2⟩
  | .unk _, _, ⟨i, h1, h2⟩ => ⟨i, pre_get hp h1, h2⟩
theorem VK.ext (hp : ts <+: ts') : ∀ {t : Tm} {k : List Int}, VK R ts t k → VK R ts' t k
  | .cst _, _, h => h
  | .op _ _ _, _, ⟨x, y, h1, h2, h3⟩ => ⟨x, y, h1.ext hp, h2.ext hp, h3⟩
  | .ld _ _, _, h => h
  | .unk _, _, h => h
theorem VN.tab {t : Tm} {k : List Int} {n : Int} (hk : VK R ts t k) : VN R ts t n ↔ ∃ i : Nat, ts[i]? = some t ∧ n = ((2 * R + i : Nat) : Int) := by
  cases t with
  | old => exact hk.elim
  | own => exact hk.elim
  | _ => exact Iff.rfl
theorem VN.cls {t : Tm} {n : Int} (h : VN R ts t n) : (∃ v : Nat, t = .old v ∧ n = (v : Int) ∧ v < R) ∨ (∃ v : Nat, t = .own v ∧ n = ((R + v : Nat) : Int) ∧ v < R) ∨ (∃ i : Nat, ts[i]? = some t ∧ n = ((2 * R + i : Nat) : Int)) := by
  cases t with
  | old v => exact .inl ⟨v, rfl, h.1, h.2⟩
  | own v => exact .inr (.inl ⟨v, rfl, h.1, h.2⟩)
  | _ => exact .inr (.inr h)
theorem VN.uniq (hnd : ts.Nodup) (hno : ∀ v, Tm.old v ∉ ts ∧ Tm.own v ∉ ts) {t : Tm} {n m : Int} (h1 : VN R ts t n) (h2 : VN R ts t m) : n = m := by
  cases t with
  | old => exact h1.1.trans h2.1.symm
  | own => exact h1.1.trans h2.1.symm
  | _ =>
    obtain ⟨i, a1, a2⟩ := h1
    obtain ⟨j, b1, b2⟩ := h2
    have := nodup_inj hnd a1 b1
    omega
theorem VN.inj {t s : Tm} {n : Int} (h1 : VN R ts t n) (h2 : VN R ts s n) : t = s := by
  rcases h1.cls with ⟨v, rfl, a1, a2⟩ | ⟨v, rfl, a1, a2⟩ | ⟨i, a1, a2⟩ <;> rcases h2.cls with ⟨u, rfl, b1, b2⟩ | ⟨u, rfl, b1, b2⟩ | ⟨j, b1, b2⟩
  · rw [show v = u by omega]
  · omega
  · omega
  · omega
  · rw [show v = u by omega]
  · omega
  · omega
  · omega
  · have : i = j := by omega
    subst this
    rw [a1] at b1; exact Option.some.inj b1
theorem VT.noreg (h : VT R ts K) (v : Nat) : Tm.old v ∉ ts ∧ Tm.own v ∉ ts := by
  constructor
  · intro hm
    obtain ⟨i, hi⟩ := List.mem_iff_getElem?.1 hm
    obtain ⟨k, hk⟩ := get_of_lt (l := K) (k := i) (by rw [h.len]; exact (List.getElem?_eq_some_iff.1 hi).1)
    exact h.key i _ k hi hk
  · intro hm
    obtain ⟨i, hi⟩ := List.mem_iff_getElem?.1 hm
    obtain ⟨k, hk⟩ := get_of_lt (l := K) (k := i) (by rw [h.len]; exact (List.getElem?_eq_some_iff.1 hi).1)
    exact h.key i _ k hi hk
theorem VT.uniq (h : VT R ts K) {t : Tm} {n m : Int} (h1 : VN R ts t n) (h2 : VN R ts t m) : n = m := VN.uniq h.nd h.noreg h1 h2
theorem VK.uniq (h : VT R ts K) : ∀ {t : Tm} {k k' : List Int}, VK R ts t k → VK R ts t k' → k = k'
  | .cst _, _, _, h1, h2 => h1.trans h2.symm
  | .op _ _ _, _, _, ⟨x, y, a1, a2, a3⟩, ⟨x', y', b1, b2, b3⟩ => by rw [a3, b3, h.uniq a1 b1, h.uniq a2 b2]
  | .ld _ _, _, _, h1, h2 => h1.trans h2.symm
  | .unk _, _, _, h1, h2 => h1.trans h2.symm
theorem VK.inj : ∀ {t s : Tm} {k : List Int}, VK R ts t k → VK R ts s k → t = s
  | .cst n, .cst m, _, h1, h2 => by have := h1.symm.trans h2; simp at this; rw [this]
  | .cst n, .op _ _ _, _, h1, ⟨x, y, _, _, h2⟩ => by have := h1.symm.trans h2; simp at this
  | .cst n, .ld _ _, _, h1, h2 => by have := h1.symm.trans h2; simp at this
  | .cst n, .unk _, _, h1, h2 => by have := h1.symm.trans h2; simp at this
  | .op _ _ _, .cst _, _, ⟨x, y, _, _, h1⟩, h2 => by have := h1.symm.trans h2; simp at this
  | .op o a b, .op o' a' b', _, ⟨x, y, a1, a2, a3⟩, ⟨x', y', b1, b2, b3⟩ => by
    have e := a3.symm.trans b3
    simp only [List.cons.injEq, true_and, and_true] at e
    obtain ⟨e1, e2, e3⟩ := e
    subst e2; subst e3
    rw [e1, VN.inj a1 b1, VN.inj a2 b2]
  | .op _ _ _, .ld _ _, _, ⟨x, y, _, _, h1⟩, h2 => by have := h1.symm.trans h2; simp at this
  | .op _ _ _, .unk _, _, ⟨x, y, _, _, h1⟩, h2 => by have := h1.symm.trans h2; simp at this
  | .ld _ _, .cst _, _, h1, h2 => by have := h1.symm.trans h2; simp at this
  | .ld _ _, .op _ _ _, _, h1, ⟨x, y, _, _, h2⟩ => by have := h1.symm.trans h2; simp at this
  | .ld b τ, .ld b' τ', _, h1, h2 => by have := h1.symm.trans h2; simp at this; rw [this.1, this.2]
  | .ld _ _, .unk _, _, h1, h2 => by have := h1.symm.trans h2; simp at this
  | .unk _, .cst _, _, h1, h2 => by have := h1.symm.trans h2; simp at this
  | .unk _, .op _ _ _, _, h1, ⟨x, y, _, _, h2⟩ => by have := h1.symm.trans h2; simp at this
  | .unk _, .ld _ _, _, h1, h2 => by have := h1.symm.trans h2; simp at this
  | .unk n, .unk m, _, h1, h2 => by
    have := h1.symm.trans h2
    simp only [List.cons.injEq, true_and, and_true] at this
    rw [show n = m by omega]
theorem kidx_none {k : List Int} : ∀ {K : List (List Int)}, kidx k K = none → k ∉ K
  | [], _ => by simp
  | x :: r, h => by
    unfold kidx at h
    cases hx : k == x with
    | true => rw [hx] at h; cases h
    | false =>
      rw [hx] at h
      have h' : kidx k r = none := by simpa using h
      have := kidx_none h'
      simp only [List.mem_cons, not_or]
      exact ⟨by simpa using hx, this⟩
theorem VT.num (h : VT R ts K) {t : Tm} {k : List Int} (hk : VK R ts t k) (hw : ∀ n, t = .cst n → isW n) : ∃ ts', ts <+: ts' ∧ VT R ts' (vnum ((2 * R : Nat) : Int) K k).2 ∧ VN R ts' t (vnum ((2 * R : Nat) : Int) K k).1 := by
  cases e : kidx k K with
  | some i =>
    rw [vnum_old e]
    obtain ⟨h1, h2⟩ := kidx_lt e
    obtain ⟨s, hs⟩ := get_of_lt (l := ts) (k := i) (by rw [← h.len]; exact h1)
    have := VK.inj (h.key i s k hs h2) hk
    subst this
    exact ⟨ts, List.prefix_rfl, h, (VN.tab hk).2 ⟨i, hs, by push_cast; omega⟩⟩
  | none =>
    rw [vnum_new e]
    have hni := kidx_none e
    have hnt : t ∉ ts := fun hm => by
      obtain ⟨i, hi⟩ := List.mem_iff_getElem?.1 hm
      obtain ⟨k', hk'⟩ := get_of_lt (l := K) (k := i) (by rw [h.len]; exact (List.getElem?_eq_some_iff.1 hi).1)
      have := VK.uniq h (h.key i t k' hi hk') hk
      subst this
      exact hni (List.mem_of_getElem? hk')
    have hp : ts <+: ts ++ [t] := List.prefix_append _ _
    refine ⟨ts ++ [t], hp, ⟨?_, ?_, fun i s k' hs hk' => ?_, fun n hn => ?_⟩, ?_⟩
    · rw [List.nodup_append]
      exact ⟨h.nd, by simp, fun a ha b hb => by simp at hb; subst hb; exact fun e => hnt (e ▸ ha)⟩
    · simp [h.len]
    · rw [List.getElem?_append] at hs hk'
      by_cases hi : i < ts.length
      · rw [if_pos hi] at hs
        rw [if_pos (by rw [h.len]; exact hi)] at hk'
        exact (h.key i s k' hs hk').ext hp
      · rw [if_neg hi] at hs
        rw [if_neg (by rw [h.len]; exact hi), h.len] at hk'
        have h0 : i - ts.length = 0 := by
          have := (List.getElem?_eq_some_iff.1 hs).1
          simp at this; omega
        rw [h0] at hs hk'
        simp at hs hk'
        subst hs; subst hk'
        exact hk.ext hp
    · simp only [List.mem_append, List.mem_singleton] at hn
      rcases hn with hn | hn
      · exact h.word n hn
      · exact hw n hn.symm
    · exact (VN.tab (hk.ext hp)).2 ⟨ts.length, by simp, by rw [h.len]; push_cast; omega⟩
theorem VT.cst (h : VT R ts K) {t : Tm} {n : Int} (hn : VN R ts t n) : (∃ c, t = .cst c ∧ isW c ∧ vconst ((2 * R : Nat) : Int) K n = (c, true)) ∨ ((∀ c, t ≠ .cst c) ∧ (vconst ((2 * R : Nat) : Int) K n).2 = false) := by
  rcases hn.cls with ⟨v, rfl, a1, a2⟩ | ⟨v, rfl, a1, a2⟩ | ⟨i, a1, a2⟩
  · exact .inr ⟨fun c => by simp, by rw [vconst_low (by simp; omega)]⟩
  · exact .inr ⟨fun c => by simp, by rw [vconst_low (by simp; omega)]⟩
  · obtain ⟨k, hk⟩ := get_of_lt (l := K) (k := i) (by rw [h.len]; exact (List.getElem?_eq_some_iff.1 a1).1)
    have hkey := h.key i t k a1 hk
    have hv : vconst ((2 * R : Nat) : Int) K n = (IntKind.u32.wrap (rget k 1), rget k 0 == 1) := by
      unfold vconst
      rw [show decide (n < ((2 * R : Nat) : Int)) = false by simp; omega, show (n - ((2 * R : Nat) : Int)).toNat = i by omega, hk]
      rfl
    rw [hv]
    cases t with
    | old => exact hkey.elim
    | own => exact hkey.elim
    | cst c =>
      have hc := h.word c (List.mem_of_getElem? a1)
      have hk' : k = [1, c, 0, 0] := hkey
      subst hk'
      refine .inl ⟨c, rfl, hc, ?_⟩
      show (IntKind.u32.wrap c, true) = _
      rw [IntKind.wrap_u32]
      obtain ⟨h1, h2⟩ := hc
      congr 1; omega
    | op o a b =>
      obtain ⟨x, y, _, _, rfl⟩ := hkey
      exact .inr ⟨fun c => by simp, rfl⟩
    | ld b τ =>
      have hk' : k = [3, b, τ, 0] := hkey
      subst hk'
      exact .inr ⟨fun c => by simp, rfl⟩
    | unk m =>
      have hk' : k = [4, (m : Int) + 1, 0, 0] := hkey
      subst hk'
      exact .inr ⟨fun c => by simp, rfl⟩
end
def VO (R : Nat) (ts : List Tm) : Option Tm → Int → Prop
  | none, n => n = 0
  | some t, n => VN R ts t n
def VE (R : Nat) (ts : List Tm) (e : SE) (k : List Int) : Prop := ∃ x y, VO R ts e.a x ∧ VO R ts e.b y ∧ k = bif e.risk then [1, e.k, x, y, 0, 0] else [2, e.op, e.base, e.size, x, y]
structure VS (R : Nat) (ts : List Tm) (w : VW) (s : SS) : Prop where
  t : VT R ts w.K
  regs : All2 (VN R ts) s.regs w.vals
  effs : All2 (VE R ts) s.effs w.effs
  time : w.time = s.time
section
variable {R : Nat} {ts ts' : List Tm}
theorem VO.ext (hp : ts <+: ts') : ∀ {t : Option Tm} {n : Int}, VO R ts t n → VO R ts' t n
  | none, _, h => h
  | some _, _, h => VN.ext hp h
theorem VE.ext (hp : ts <+: ts') {e : SE} {k : List Int} : VE R ts e k → VE R ts' e k := fun ⟨x, y, h1, h2, h3⟩ => ⟨x, y, h1.ext hp, h2.ext hp, h3⟩
theorem VS.at {w : VW} {s : SS} (h : VS R ts w s) {z : Int} (hz : 0 ≤ z ∧ z < s.regs.length) : VN R ts (tget s.regs z) (rget w.vals z) := by
  have hl := h.regs.len
  obtain ⟨x, hx⟩ := get_of_lt (l := s.regs) (k := z.toNat) (by omega)
  obtain ⟨y, hy⟩ := get_of_lt (l := w.vals) (k := z.toNat) (by omega)
  unfold tget rget
  rw [hx, hy]
  exact h.regs.get hx hy
theorem VS.put {w : VW} {s : SS} (h : VS R ts w s) (z : Int) {t : Tm} {k : List Int} (hk : VK R ts t k) (hw : ∀ n, t = .cst n → isW n) : ∃ ts', ts <+: ts' ∧ VS R ts' (w.put z (vnum ((2 * R : Nat) : Int) w.K k)) (s.put z t) := by
  obtain ⟨ts', hp, h1, h2⟩ := h.t.num hk hw
  exact ⟨ts', hp, h1, (h.regs.mono fun x y hxy => hxy.ext hp).set h2 _, h.effs.mono fun x y hxy => hxy.ext hp, h.time⟩
theorem VS.eff {w : VW} {s : SS} (h : VS R ts w s) {e : SE} {k : List Int} (he : VE R ts e k) : VS R ts { w with effs := w.effs ++ [k] } (s.eff e) := ⟨h.t, h.regs, h.effs.snoc he, h.time⟩
theorem VS.tick {w : VW} {s : SS} (h : VS R ts w s) : VS R ts w.tick s.tick := ⟨h.t, h.regs, h.effs, by show w.time + 1 = s.time + 1; rw [h.time]⟩
theorem VS.get {w : VW} {s : SS} (h : VS R ts w s) (t : Tac) {e : SE} {a : Int} (he : VE R ts e [2, t.op, t.base, t.size, a, 0]) : ∃ ts', ts <+: ts' ∧ VS R ts' ((w.hap t a 0).put t.d (vunk ((2 * R : Nat) : Int) (w.hap t a 0))) (s.get t e) := by
  have h1 : VS R ts (w.hap t a 0) (s.eff e) := h.eff he
  have hlen : (w.hap t a 0).effs.length = s.effs.length + 1 := by
    have := h.effs.len
    show (w.effs ++ [_]).length = _
    simp [this]
  refine h1.put t.d (t := .unk s.effs.length) (k := [4, ((w.hap t a 0).effs.length : Int), 0, 0]) ?_ (fun n e => by cases e)
  show _ = _
  rw [hlen]; push_cast; rfl
theorem VS.risky {w : VW} {s : SS} (h : VS R ts w s) {t : Tac} (hb : 0 ≤ t.b ∧ t.b < s.regs.length) : vrisky ((2 * R : Nat) : Int) w t = trisky t.k (tget s.regs t.b) := by
  unfold vrisky trisky
  congr 1
  rcases h.t.cst (h.at hb) with ⟨c, h1, h2, h3⟩ | ⟨h1, h2⟩
  · rw [h1, h3]; simp [Tm.isZero]
  · rw [h2]
    cases e : tget s.regs t.b with
    | cst c => exact absurd e (h1 c)
    | _ => rfl
theorem wapp_err {k x y : Int} (hk : 4 ≤ k ∧ k ≤ 15) : ((wapp k x y).2 == 0) = !(((k == 7 || k == 8)) && y == 0) := by
  unfold wapp
  have h : k = 4 ∨ k = 5 ∨ k = 6 ∨ k = 7 ∨ k = 8 ∨ k = 9 ∨ k = 10 ∨ k = 11 ∨ k = 12 ∨ k = 13 ∨ k = 14 ∨ k = 15 := by omega
  rcases h with rfl | rfl | rfl | rfl | rfl | rfl | rfl | rfl | rfl | rfl | rfl | rfl <;> first | rfl | (simp only [wdivide]; cases y == 0 <;> rfl)
theorem VS.apply {w : VW} {s : SS} (h : VS R ts w s) {t : Tac} (hk : 4 ≤ t.k ∧ t.k ≤ 15) (ha : 0 ≤ t.a ∧ t.a < s.regs.length) (hb : 0 ≤ t.b ∧ t.b < s.regs.length) :
    ∃ k, vapply ((2 * R : Nat) : Int) w.K t.k (rget w.vals t.a) (rget w.vals t.b) = vnum ((2 * R : Nat) : Int) w.K k ∧ VK R ts (tfold t.k (tget s.regs t.a) (tget s.regs t.b)) k ∧ ∀ n, tfold t.k (tget s.regs t.a) (tget s.regs t.b) = .cst n → isW n := by
  have hna := h.at ha
  have hnb := h.at hb
  have hop : ∀ x y : Tm, VN R ts x (rget w.vals t.a) → VN R ts y (rget w.vals t.b) → VK R ts (.op t.k x y) [2, t.k, rget w.vals t.a, rget w.vals t.b] := fun x y h1 h2 => ⟨_, _, h1, h2, rfl⟩
  rcases h.t.cst hna with ⟨c, h1, h2, h3⟩ | ⟨h1, h2⟩
  · rcases h.t.cst hnb with ⟨d, g1, g2, g3⟩ | ⟨g1, g2⟩
    · rw [h1] at hna ⊢
      rw [g1] at hnb ⊢
      have herr := wapp_err (k := t.k) (x := c) (y := d) hk
      cases hr : trisky t.k (.cst d) with
      | true =>
        have hr' : ((t.k == 7 || t.k == 8) && d == 0) = true := hr
        refine ⟨_, vapply_o3 (by rw [h3, g3, herr, hr']; rfl), ?_, ?_⟩
        · simp only [tfold, hr, cond_true]; exact hop _ _ hna hnb
        · simp only [tfold, hr, cond_true]; intro n e; cases e
      | false =>
        have hr' : ((t.k == 7 || t.k == 8) && d == 0) = false := hr
        refine ⟨_, vapply_c (by rw [h3]) (by rw [g3]) (by rw [h3, g3, herr, hr']; rfl), ?_, ?_⟩
        · simp only [tfold, hr, cond_false]; rw [h3, g3]; rfl
        · simp only [tfold, hr, cond_false]
          intro n e
          cases e
          exact wapp_word h2 g2
    · refine ⟨_, vapply_o2 g2, ?_, ?_⟩
      · cases e2 : tget s.regs t.b with
        | cst d => exact absurd e2 (g1 d)
        | _ => rw [h1] at hna ⊢; rw [e2] at hnb; exact hop _ _ hna hnb
      · intro n e
        cases e2 : tget s.regs t.b with
        | cst d => exact absurd e2 (g1 d)
        | _ => rw [h1, e2] at e; cases e
  · refine ⟨_, vapply_o1 h2, ?_, ?_⟩
    · cases e1 : tget s.regs t.a with
      | cst d => exact absurd e1 (h1 d)
      | _ => rw [e1] at hna; exact hop _ _ hna hnb
    · intro n e
      cases e1 : tget s.regs t.a with
      | cst d => exact absurd e1 (h1 d)
      | _ => rw [e1] at e; cases e
theorem VS.step {w : VW} {s : SS} (h : VS R ts w s) {t : Tac} (ht : TacT t R) (hl : s.regs.length = R) : ∃ ts', ts <+: ts' ∧ VS R ts' (w.step ((2 * R : Nat) : Int) t) (s.step t) := by
  have hd : setsOp t.op = true → 0 ≤ t.d ∧ t.d < s.regs.length := fun e => by rw [hl]; exact ht.d e
  have ha : use1 t.op = true ∨ use2 t.op = true → 0 ≤ t.a ∧ t.a < s.regs.length := fun e => by rw [hl]; exact ht.a e
  have hb : use2 t.op = true → 0 ≤ t.b ∧ t.b < s.regs.length := fun e => by rw [hl]; exact ht.b e
  have hw := ht.want
  have h10 : t.op = 1 ∨ t.op = 2 ∨ t.op = 3 ∨ t.op = 4 ∨ t.op = 5 ∨ t.op = 6 ∨ t.op = 7 ∨ t.op = 8 ∨ t.op = 9 ∨ t.op = 10 := by have := ht.op; omega
  have hsz : arrOp t.op = false → t.size = 0 := fun e => by have := congrArg Tac.size hw; simp only [Tac.want, e, cond_false] at this; exact this
  have hbs : (baseOp t.op || (arrOp t.op || t.op == 10)) = false → t.base = 0 := fun e => by have := congrArg Tac.base hw; simp only [Tac.want, e, cond_false] at this; exact this
  rcases h10 with ho | ho | ho | ho | ho | ho | ho | ho | ho | ho
  · rw [vstep1 ho, show s.step t = s.put t.d (.cst t.n) by unfold SS.step; rw [ho]; rfl]
    exact h.put t.d rfl (fun n e => by cases e; exact ht.n)
  · rw [vstep2 ho, show s.step t = s.put t.d (tget s.regs t.a) by unfold SS.step; rw [ho]; rfl]
    exact ⟨ts, List.prefix_rfl, h.t, h.regs.set (h.at (ha (.inl (by rw [ho]; rfl)))) _, h.effs, h.time⟩
  · rw [vstep3 ho, show s.step t = s.bin t by unfold SS.step; rw [ho]; rfl]
    have ha' := ha (.inr (by rw [ho]; rfl))
    have hb' := hb (by rw [ho]; rfl)
    obtain ⟨k, hk1, hk2, hk3⟩ := h.apply (ht.k ho) ha' hb'
    have hr := h.risky hb'
    have h1 : VS R ts (w.div ((2 * R : Nat) : Int) t) (s.div t) := by
      unfold VW.div SS.div
      rw [hr]
      cases trisky t.k (tget s.regs t.b) with
      | true => exact h.eff ⟨_, _, h.at ha', h.at hb', rfl⟩
      | false => exact h
    unfold VW.bin SS.bin
    rw [hk1]
    have := h1.put t.d hk2 hk3
    rwa [div_K] at this
  · rw [vstep4 ho, show s.step t = s.put t.d (.ld t.base s.time) by unfold SS.step; rw [ho]; rfl]
    exact h.put t.d (by show _ = _; rw [h.time]) (fun n e => by cases e)
  · rw [vstep5 ho, show s.step t = (s.eff ⟨false, 5, 0, t.base, 0, some (tget s.regs t.a), none⟩).tick by unfold SS.step; rw [ho]; rfl]
    refine ⟨ts, List.prefix_rfl, VS.tick (h.eff ⟨_, _, h.at (ha (.inl (by rw [ho]; rfl))), rfl, ?_⟩)⟩
    rw [ho, hsz (by rw [ho]; rfl)]; rfl
  · rw [vstep6 ho, show s.step t = s.get t ⟨false, 6, 0, t.base, t.size, some (tget s.regs t.a), none⟩ by unfold SS.step; rw [ho]; rfl]
    refine h.get t ⟨_, _, h.at (ha (.inl (by rw [ho]; rfl))), rfl, ?_⟩
    rw [ho]; rfl
  · rw [vstep7 ho, show s.step t = (s.eff ⟨false, 7, 0, t.base, t.size, some (tget s.regs t.a), some (tget s.regs t.b)⟩).tick by unfold SS.step; rw [ho]; rfl]
    refine ⟨ts, List.prefix_rfl, VS.tick (h.eff ⟨_, _, h.at (ha (.inr (by rw [ho]; rfl))), h.at (hb (by rw [ho]; rfl)), ?_⟩)⟩
    rw [ho]; rfl
  · rw [vstep8 ho, show s.step t = s.get t ⟨false, 8, 0, 0, 0, none, none⟩ by unfold SS.step; rw [ho]; rfl]
    refine h.get t ⟨_, _, rfl, rfl, ?_⟩
    rw [ho, hsz (by rw [ho]; rfl), hbs (by rw [ho]; rfl)]; rfl
  · rw [vstep9 ho, show s.step t = s.eff ⟨false, 9, 0, 0, 0, some (tget s.regs t.a), none⟩ by unfold SS.step; rw [ho]; rfl]
    refine ⟨ts, List.prefix_rfl, h.eff ⟨_, _, h.at (ha (.inl (by rw [ho]; rfl))), rfl, ?_⟩⟩
    rw [ho, hsz (by rw [ho]; rfl), hbs (by rw [ho]; rfl)]; rfl
  · rw [vstep10 ho, show s.step t = (s.eff ⟨false, 10, 0, t.base, 0, none, none⟩).tick by unfold SS.step; rw [ho]; rfl]
    refine ⟨ts, List.prefix_rfl, VS.tick (h.eff ⟨_, _, rfl, rfl, ?_⟩)⟩
    rw [ho, hsz (by rw [ho]; rfl)]; rfl
end
def symR (R : Nat) : List Tm := (List.range R).map Tm.old
def srun (regs : List Tm) (l : List Tac) : SS := l.foldl SS.step ⟨regs, [], 0⟩
theorem All2.map {α β γ : Type} {r : β → γ → Prop} {f : α → β} {g : α → γ} : ∀ {l : List α}, (∀ x ∈ l, r (f x) (g x)) → All2 r (l.map f) (l.map g)
  | [], _ => trivial
  | x :: l, h => ⟨h x (by simp), All2.map fun y hy => h y (by simp [hy])⟩
section
variable {R : Nat} {ts : List Tm}
theorem VE.uniq {K : List (List Int)} (hK : VT R ts K) {e : SE} {k k' : List Int} (h1 : VE R ts e k) (h2 : VE R ts e k') : k = k' := by
  obtain ⟨x, y, a1, a2, a3⟩ := h1
  obtain ⟨x', y', b1, b2, b3⟩ := h2
  have hu : ∀ {o : Option Tm} {n m : Int}, VO R ts o n → VO R ts o m → n = m := fun {o n m} g1 g2 => by
    cases o with
    | none => exact g1.trans g2.symm
    | some t => exact hK.uniq g1 g2
  rw [a3, b3, hu a1 b1, hu a2 b2]
theorem VE.inj {e e' : SE} {k : List Int} (hw : e.wf) (hw' : e'.wf) (h1 : VE R ts e k) (h2 : VE R ts e' k) : e = e' := by
  obtain ⟨x, y, a1, a2, a3⟩ := h1
  obtain ⟨x', y', b1, b2, b3⟩ := h2
  have hso : ∀ {o o' : Option Tm} {n : Int}, o.isSome → o'.isSome → VO R ts o n → VO R ts o' n → o = o' := fun {o o' n} g1 g2 g3 g4 => by
    cases o with
    | none => cases g1
    | some t => cases o' with
      | none => cases g2
      | some s => rw [VN.inj (R := R) (ts := ts) g3 g4]
  obtain ⟨r, o, k1, ba, si, oa, ob⟩ := e
  obtain ⟨r', o', k1', ba', si', oa', ob'⟩ := e'
  have h3 := a3.symm.trans b3
  rcases hw with ⟨w1, w2, w3, w4, w5, w6⟩ | ⟨w1, w0, w2⟩ <;> rcases hw' with ⟨v1, v2, v3, v4, v5, v6⟩ | ⟨v1, v0, v2⟩ <;> simp only at *
  · subst w1; subst v1; subst w2; subst v2; subst w3; subst v3; subst w4; subst v4
    simp only [cond_true, List.cons.injEq, true_and, and_true] at h3
    obtain ⟨e1, e2, e3⟩ := h3
    subst e1; subst e2; subst e3
    rw [hso w5 v5 a1 b1, hso w6 v6 a2 b2]
  · subst w1; subst v1
    simp at h3
  · subst w1; subst v1
    simp at h3
  · subst w1; subst v1; subst w0; subst v0
    simp only [cond_false, List.cons.injEq, true_and, and_true] at h3
    obtain ⟨e1, e2, e3, e4, e5⟩ := h3
    subst e1; subst e2; subst e3; subst e4; subst e5
    have hfin : oa = oa' → ob = ob' → (⟨false, o, 0, ba, si, oa, ob⟩ : SE) = ⟨false, o, 0, ba, si, oa', ob'⟩ := fun q1 q2 => by rw [q1, q2]
    rcases w2 with ⟨u1, u2, u3, u4⟩ | ⟨u1, u3, u4⟩ | ⟨u1, u3, u4⟩ | ⟨u1, u2, u5, u3, u4⟩ | ⟨u1, u2, u5, u3, u4⟩ | ⟨u1, u2, u3, u4⟩ <;>
      rcases v2 with ⟨q1, q2, q3, q4⟩ | ⟨q1, q3, q4⟩ | ⟨q1, q3, q4⟩ | ⟨q1, q2, q5, q3, q4⟩ | ⟨q1, q2, q5, q3, q4⟩ | ⟨q1, q2, q3, q4⟩ <;> first
        | (exfalso; omega)
        | exact hfin (hso u3 q3 a1 b1) (u4.trans q4.symm)
        | exact hfin (hso u3 q3 a1 b1) (hso u4 q4 a2 b2)
        | exact hfin (u3.trans q3.symm) (u4.trans q4.symm)
end
theorem All2.at {α β : Type} {r : α → β → Prop} {l : List α} {m : List β} (h : All2 r l m) {i : Nat} (hi : i < l.length) : ∃ x y, l[i]? = some x ∧ m[i]? = some y ∧ r x y := by
  obtain ⟨x, hx⟩ := get_of_lt hi
  obtain ⟨y, hy⟩ := get_of_lt (l := m) (k := i) (by rw [← h.len]; exact hi)
  exact ⟨x, y, hx, hy, h.get hx hy⟩
def RN (ts : List Tm) (t : Tm) (n : Int) : Prop := ∃ i : Nat, ts[i]? = some t ∧ n = (i : Int)
def RK (ts : List Tm) : Tm → RVal → Prop
  | .cst n, k => k = ⟨1, 0, 0, 0, 0, 0, 0, 0, n⟩
  | .op o a b, k => ∃ x y, RN ts a x ∧ RN ts b y ∧ k = ⟨3, o, x, y, 0, 0, 0, 0, 0⟩
  | .ld b τ, k => k = ⟨4, 0, 0, 0, 0, 0, b, τ, 0⟩
  | .unk n, k => k = runkV n
  | .old v, k => k = RVal.reg v 0
  | .own v, k => k = RVal.reg v 1
structure RT (ts : List Tm) (K : List RVal) : Prop where
  nd : ts.Nodup
  len : K.length = ts.length
  key : ∀ (i : Nat) (t : Tm) (k : RVal), ts[i]? = some t → K[i]? = some k → RK ts t k
  word : ∀ (n : Int), Tm.cst n ∈ ts → isW n
section
variable {ts ts' : List Tm} {K : List RVal}
theorem RN.ext (hp : ts <+: ts') {t : Tm} {n : Int} : RN ts t n → RN ts' t n := fun ⟨i, h1, h2⟩ => ⟨i, pre_get hp h1, h2⟩
theorem RK.ext (hp : ts <+: ts') : ∀ {t : Tm} {k : RVal}, RK ts t k → RK ts' t k
  | .cst _, _, h => h
  | .op _ _ _, _, ⟨x, y, h1, h2, h3⟩ => ⟨x, y, h1.ext hp, h2.ext hp, h3⟩
  | .ld _ _, _, h => h
  | .unk _, _, h => h
  | .old _, _, h => h
  | .own _, _, h => h
theorem RN.uniq (hnd : ts.Nodup) {t : Tm} {n m : Int} (h1 : RN ts t n) (h2 : RN ts t m) : n = m := by
  obtain ⟨i, a1, a2⟩ := h1
  obtain ⟨j, b1, b2⟩ := h2
  have := nodup_inj hnd a1 b1
  omega
theorem RN.inj {t s : Tm} {n : Int} (h1 : RN ts t n) (h2 : RN ts s n) : t = s := by
  obtain ⟨i, a1, a2⟩ := h1
  obtain ⟨j, b1, b2⟩ := h2
  have : i = j := by omega
  subst this
  rw [a1] at b1; exact Option.some.inj b1
theorem RK.uniq (h : ts.Nodup) : ∀ {t : Tm} {k k' : RVal}, RK ts t k → RK ts t k' → k = k'
  | .cst _, _, _, h1, h2 => h1.trans h2.symm
  | .op _ _ _, _, _, ⟨x, y, a1, a2, a3⟩, ⟨x', y', b1, b2, b3⟩ => by rw [a3, b3, RN.uniq h a1 b1, RN.uniq h a2 b2]
  | .ld _ _, _, _, h1, h2 => h1.trans h2.symm
  | .unk _, _, _, h1, h2 => h1.trans h2.symm
  | .old _, _, _, h1, h2 => h1.trans h2.symm
  | .own _, _, _, h1, h2 => h1.trans h2.symm
def tkind : Tm → Int
  | .cst _ => 1
  | .op _ _ _ => 3
  | .ld _ _ => 4
  | .unk _ => 2
  | .old _ => 2
  | .own _ => 2
def tside : Tm → Int
  | .unk _ => 2
  | .own _ => 1
  | _ => 0
theorem RK.kind {t : Tm} {k : RVal} (h : RK ts t k) : k.kind = tkind t ∧ k.side = tside t := by
  cases t with
  | op o a b => obtain ⟨x, y, _, _, rfl⟩ := h; exact ⟨rfl, rfl⟩
  | _ => have h' : k = _ := h; subst h'; exact ⟨rfl, rfl⟩
theorem RK.inj {t s : Tm} {k : RVal} (h1 : RK ts t k) (h2 : RK ts s k) : t = s := by
  have e1 := h1.kind
  have e2 := h2.kind
  have ek : tkind t = tkind s := e1.1.symm.trans e2.1
  have es : tside t = tside s := e1.2.symm.trans e2.2
  cases t <;> cases s <;> first | (exfalso; revert ek; simp only [tkind]; decide) | (exfalso; revert es; simp only [tside]; decide) | skip
  · have e : RVal.reg _ 0 = RVal.reg _ 0 := (show k = _ from h1).symm.trans h2
    simp only [RVal.reg, RVal.mk.injEq, true_and, and_true] at e
    exact congrArg Tm.old (Int.ofNat_inj.1 e)
  · have e : RVal.reg _ 1 = RVal.reg _ 1 := (show k = _ from h1).symm.trans h2
    simp only [RVal.reg, RVal.mk.injEq, true_and, and_true] at e
    exact congrArg Tm.own (Int.ofNat_inj.1 e)
  · have e := (show k = _ from h1).symm.trans h2
    simp only [RVal.mk.injEq, true_and, and_true] at e
    rw [e]
  · obtain ⟨x, y, a1, a2, a3⟩ := h1
    obtain ⟨x', y', b1, b2, b3⟩ := h2
    have e := a3.symm.trans b3
    simp only [RVal.mk.injEq, true_and, and_true] at e
    obtain ⟨q1, q2, q3⟩ := e
    subst q2; subst q3
    rw [q1, RN.inj a1 b1, RN.inj a2 b2]
  · have e := (show k = _ from h1).symm.trans h2
    simp only [RVal.mk.injEq, true_and, and_true] at e
    rw [e.1, e.2]
  · have e : runkV _ = runkV _ := (show k = _ from h1).symm.trans h2
    simp only [runkV, RVal.mk.injEq, true_and, and_true] at e
    exact congrArg Tm.unk (Int.ofNat_inj.1 e)
theorem ridx_no {v : RVal} : ∀ {L : List RVal}, ridx v L = none → v ∉ L
  | [], _ => by simp
  | x :: r, h => by
    unfold ridx at h
    cases hx : x.same v with
    | true => rw [hx] at h; cases h
    | false =>
      rw [hx] at h
      have h' : ridx v r = none := by simpa using h
      have := ridx_no h'
      simp only [List.mem_cons, not_or]
      refine ⟨fun e => ?_, this⟩
      subst e
      rw [(RVal.same_iff v v).2 rfl] at hx; cases hx
theorem RT.num (h : RT ts K) {t : Tm} {k : RVal} (hk : RK ts t k) (hw : ∀ n, t = .cst n → isW n) : ∃ ts', ts <+: ts' ∧ RT ts' (rnum K k).2 ∧ RN ts' t (rnum K k).1 := by
  cases e : ridx k K with
  | some i =>
    rw [rnum_old e]
    obtain ⟨h1, h2⟩ := ridx_lt e
    obtain ⟨s, hs⟩ := get_of_lt (l := ts) (k := i) (by rw [← h.len]; exact h1)
    have := RK.inj (h.key i s k hs h2) hk
    subst this
    exact ⟨ts, List.prefix_rfl, h, i, hs, rfl⟩
  | none =>
    rw [rnum_new e]
    have hni := ridx_no e
    have hnt : t ∉ ts := fun hm => by
      obtain ⟨i, hi⟩ := List.mem_iff_getElem?.1 hm
      obtain ⟨k', hk'⟩ := get_of_lt (l := K) (k := i) (by rw [h.len]; exact (List.getElem?_eq_some_iff.1 hi).1)
      have := RK.uniq h.nd (h.key i t k' hi hk') hk
      subst this
      exact hni (List.mem_of_getElem? hk')
    have hp : ts <+: ts ++ [t] := List.prefix_append _ _
    refine ⟨ts ++ [t], hp, ⟨?_, ?_, fun i s k' hs hk' => ?_, fun n hn => ?_⟩, ?_⟩
    · rw [List.nodup_append]
      exact ⟨h.nd, by simp, fun a ha b hb => by simp at hb; subst hb; exact fun e => hnt (e ▸ ha)⟩
    · simp [h.len]
    · rw [List.getElem?_append] at hs hk'
      by_cases hi : i < ts.length
      · rw [if_pos hi] at hs
        rw [if_pos (by rw [h.len]; exact hi)] at hk'
        exact (h.key i s k' hs hk').ext hp
      · rw [if_neg hi] at hs
        rw [if_neg (by rw [h.len]; exact hi), h.len] at hk'
        have h0 : i - ts.length = 0 := by
          have := (List.getElem?_eq_some_iff.1 hs).1
          simp at this; omega
        rw [h0] at hs hk'
        simp at hs hk'
        subst hs; subst hk'
        exact hk.ext hp
    · simp only [List.mem_append, List.mem_singleton] at hn
      rcases hn with hn | hn
      · exact h.word n hn
      · exact hw n hn.symm
    · exact ⟨ts.length, by simp, by rw [h.len]⟩
theorem RT.cst (h : RT ts K) {t : Tm} {n : Int} (hn : RN ts t n) : (∃ c, t = .cst c ∧ isW c ∧ rconst K n = (c, true)) ∨ ((∀ c, t ≠ .cst c) ∧ (rconst K n).2 = false) := by
  obtain ⟨i, a1, a2⟩ := hn
  obtain ⟨k, hk⟩ := get_of_lt (l := K) (k := i) (by rw [h.len]; exact (List.getElem?_eq_some_iff.1 a1).1)
  have hkey := h.key i t k a1 hk
  have hv : rconst K n = (k.n, k.kind == 1) := by
    unfold rconst rval
    rw [show n.toNat = i by omega, hk]
    rfl
  rw [hv]
  by_cases hc : ∃ c, t = .cst c
  · obtain ⟨c, rfl⟩ := hc
    have hk' : k = ⟨1, 0, 0, 0, 0, 0, 0, 0, c⟩ := hkey
    subst hk'
    exact .inl ⟨c, rfl, h.word c (List.mem_of_getElem? a1), rfl⟩
  · refine .inr ⟨fun c e => hc ⟨c, e⟩, ?_⟩
    rw [hkey.kind.1]
    cases t <;> first | rfl | exact absurd ⟨_, rfl⟩ hc
end
def RO (ts : List Tm) : Option Tm → Int → Prop
  | none, n => n = 0
  | some t, n => RN ts t n
def RE (ts : List Tm) (e : SE) (k : REff) : Prop := ∃ x y, RO ts e.a x ∧ RO ts e.b y ∧ k = ⟨e.op, e.k, e.base, e.size, x, y⟩
structure RS (ts : List Tm) (w : RW) (s : SS) : Prop where
  t : RT ts w.L
  regs : All2 (RN ts) s.regs w.regs
  effs : All2 (RE ts) s.effs w.out
  time : w.time = s.time
section
variable {R : Nat} {ts ts' : List Tm}
theorem RO.ext (hp : ts <+: ts') : ∀ {t : Option Tm} {n : Int}, RO ts t n → RO ts' t n
  | none, _, h => h
  | some _, _, h => RN.ext hp h
theorem RE.ext (hp : ts <+: ts') {e : SE} {k : REff} : RE ts e k → RE ts' e k := fun ⟨x, y, h1, h2, h3⟩ => ⟨x, y, h1.ext hp, h2.ext hp, h3⟩
theorem RS.at {w : RW} {s : SS} (h : RS ts w s) {z : Int} (hz : 0 ≤ z ∧ z < s.regs.length) : RN ts (tget s.regs z) (rget w.regs z) := by
  have hl := h.regs.len
  obtain ⟨x, hx⟩ := get_of_lt (l := s.regs) (k := z.toNat) (by omega)
  obtain ⟨y, hy⟩ := get_of_lt (l := w.regs) (k := z.toNat) (by omega)
  unfold tget rget
  rw [hx, hy]
  exact h.regs.get hx hy
theorem RS.put {w : RW} {s : SS} (h : RS ts w s) (z : Int) {t : Tm} {k : RVal} (hk : RK ts t k) (hw : ∀ n, t = .cst n → isW n) : ∃ ts', ts <+: ts' ∧ RS ts' (w.put z (rnum w.L k)) (s.put z t) := by
  obtain ⟨ts', hp, h1, h2⟩ := h.t.num hk hw
  exact ⟨ts', hp, h1, (h.regs.mono fun x y hxy => hxy.ext hp).set h2 _, h.effs.mono fun x y hxy => hxy.ext hp, h.time⟩
theorem RS.eff {w : RW} {s : SS} (h : RS ts w s) {e : SE} {k : REff} (he : RE ts e k) : RS ts (w.eff k) (s.eff e) := ⟨h.t, h.regs, h.effs.snoc he, h.time⟩
theorem RS.tick {w : RW} {s : SS} (h : RS ts w s) : RS ts w.tick s.tick := ⟨h.t, h.regs, h.effs, by show w.time + 1 = s.time + 1; rw [h.time]⟩
theorem RS.get {w : RW} {s : SS} (h : RS ts w s) (t : Tac) {e : SE} {k : REff} (he : RE ts e k) : ∃ ts', ts <+: ts' ∧ RS ts' (w.get t k) (s.get t e) := by
  have h1 : RS ts (w.eff k) (s.eff e) := h.eff he
  have := h1.put t.d (t := .unk s.effs.length) (k := runkV w.out.length) (by show _ = _; rw [h.effs.len]) (fun n e => by cases e)
  exact this
theorem RS.risky {w : RW} {s : SS} (h : RS ts w s) {t : Tac} (hb : 0 ≤ t.b ∧ t.b < s.regs.length) : rrisky w t = trisky t.k (tget s.regs t.b) := by
  unfold rrisky trisky
  congr 1
  rcases h.t.cst (h.at hb) with ⟨c, h1, h2, h3⟩ | ⟨h1, h2⟩
  · rw [h1, h3]; simp [Tm.isZero]
  · rw [h2]
    cases e : tget s.regs t.b with
    | cst c => exact absurd e (h1 c)
    | _ => rfl
theorem RS.apply {w : RW} {s : SS} (h : RS ts w s) {t : Tac} (ha : 0 ≤ t.a ∧ t.a < s.regs.length) (hb : 0 ≤ t.b ∧ t.b < s.regs.length) :
    RK ts (tfold t.k (tget s.regs t.a) (tget s.regs t.b)) (rapplyV w t) ∧ ∀ n, tfold t.k (tget s.regs t.a) (tget s.regs t.b) = .cst n → isW n := by
  have hna := h.at ha
  have hnb := h.at hb
  have hr := h.risky hb
  have hop : ∀ x y : Tm, RN ts x (rget w.regs t.a) → RN ts y (rget w.regs t.b) → RK ts (.op t.k x y) ⟨3, t.k, rget w.regs t.a, rget w.regs t.b, 0, 0, 0, 0, 0⟩ := fun x y h1 h2 => ⟨_, _, h1, h2, rfl⟩
  rcases h.t.cst hna with ⟨c, h1, h2, h3⟩ | ⟨h1, h2⟩
  · rcases h.t.cst hnb with ⟨d, g1, g2, g3⟩ | ⟨g1, g2⟩
    · rw [g1] at hr
      rw [h1] at hna ⊢
      rw [g1] at hnb ⊢
      cases hk : trisky t.k (.cst d) with
      | true =>
        rw [hk] at hr
        rw [rapplyV_o (by unfold rfold; rw [hr]; simp)]
        simp only [tfold, hk, cond_true]
        exact ⟨hop _ _ hna hnb, fun n e => by cases e⟩
      | false =>
        rw [hk] at hr
        rw [rapplyV_c (by unfold rfold; rw [hr, h3, g3]; rfl), h3, g3]
        simp only [tfold, hk, cond_false]
        exact ⟨rfl, fun n e => by cases e; exact wapp_word h2 g2⟩
    · rw [rapplyV_o (by unfold rfold; rw [g2]; simp)]
      rw [h1] at hna ⊢
      cases e2 : tget s.regs t.b with
      | cst d => exact absurd e2 (g1 d)
      | _ => rw [e2] at hnb; exact ⟨hop _ _ hna hnb, fun n e => by cases e⟩
  · rw [rapplyV_o (by unfold rfold; rw [h2]; rfl)]
    cases e1 : tget s.regs t.a with
    | cst d => exact absurd e1 (h1 d)
    | _ => rw [e1] at hna; exact ⟨hop _ _ hna hnb, fun n e => by cases e⟩
theorem RS.step {w : RW} {s : SS} (h : RS ts w s) {t : Tac} (ht : TacT t R) (hl : s.regs.length = R) : ∃ ts', ts <+: ts' ∧ RS ts' (w.step t) (s.step t) := by
  have ha : use1 t.op = true ∨ use2 t.op = true → 0 ≤ t.a ∧ t.a < s.regs.length := fun e => by rw [hl]; exact ht.a e
  have hb : use2 t.op = true → 0 ≤ t.b ∧ t.b < s.regs.length := fun e => by rw [hl]; exact ht.b e
  have h10 : t.op = 1 ∨ t.op = 2 ∨ t.op = 3 ∨ t.op = 4 ∨ t.op = 5 ∨ t.op = 6 ∨ t.op = 7 ∨ t.op = 8 ∨ t.op = 9 ∨ t.op = 10 := by have := ht.op; omega
  rcases h10 with ho | ho | ho | ho | ho | ho | ho | ho | ho | ho
  · rw [rstep1 ho, show s.step t = s.put t.d (.cst t.n) by unfold SS.step; rw [ho]; rfl]
    exact h.put t.d rfl (fun n e => by cases e; exact ht.n)
  · rw [rstep2 ho, show s.step t = s.put t.d (tget s.regs t.a) by unfold SS.step; rw [ho]; rfl]
    exact ⟨ts, List.prefix_rfl, h.t, h.regs.set (h.at (ha (.inl (by rw [ho]; rfl)))) _, h.effs, h.time⟩
  · rw [rstep3 ho, show s.step t = s.bin t by unfold SS.step; rw [ho]; rfl]
    have ha' := ha (.inr (by rw [ho]; rfl))
    have hb' := hb (by rw [ho]; rfl)
    obtain ⟨hk2, hk3⟩ := h.apply ha' hb'
    have hr := h.risky hb'
    have h1 : RS ts (w.div t) (s.div t) := by
      unfold RW.div SS.div
      rw [hr]
      cases trisky t.k (tget s.regs t.b) with
      | true => exact h.eff ⟨_, _, h.at ha', h.at hb', by rw [ho]⟩
      | false => exact h
    have := h1.put t.d hk2 hk3
    rw [rdiv_L] at this
    exact this
  · rw [rstep4 ho, show s.step t = s.put t.d (.ld t.base s.time) by unfold SS.step; rw [ho]; rfl]
    exact h.put t.d (by show _ = _; rw [h.time]) (fun n e => by cases e)
  · rw [rstep5 ho, show s.step t = (s.eff ⟨false, 5, 0, t.base, 0, some (tget s.regs t.a), none⟩).tick by unfold SS.step; rw [ho]; rfl]
    exact ⟨ts, List.prefix_rfl, RS.tick (h.eff ⟨_, _, h.at (ha (.inl (by rw [ho]; rfl))), rfl, by rw [ho]⟩)⟩
  · rw [rstep6 ho, show s.step t = s.get t ⟨false, 6, 0, t.base, t.size, some (tget s.regs t.a), none⟩ by unfold SS.step; rw [ho]; rfl]
    exact h.get t ⟨_, _, h.at (ha (.inl (by rw [ho]; rfl))), rfl, by rw [ho]⟩
  · rw [rstep7 ho, show s.step t = (s.eff ⟨false, 7, 0, t.base, t.size, some (tget s.regs t.a), some (tget s.regs t.b)⟩).tick by unfold SS.step; rw [ho]; rfl]
    exact ⟨ts, List.prefix_rfl, RS.tick (h.eff ⟨_, _, h.at (ha (.inr (by rw [ho]; rfl))), h.at (hb (by rw [ho]; rfl)), by rw [ho]⟩)⟩
  · rw [rstep8 ho, show s.step t = s.get t ⟨false, 8, 0, 0, 0, none, none⟩ by unfold SS.step; rw [ho]; rfl]
    exact h.get t ⟨_, _, rfl, rfl, by rw [ho]⟩
  · rw [rstep9 ho, show s.step t = s.eff ⟨false, 9, 0, 0, 0, some (tget s.regs t.a), none⟩ by unfold SS.step; rw [ho]; rfl]
    exact ⟨ts, List.prefix_rfl, h.eff ⟨_, _, h.at (ha (.inl (by rw [ho]; rfl))), rfl, by rw [ho]⟩⟩
  · have hn : ∀ k : Int, k ≠ 10 → (t.op == k) = false := fun k hk => by rw [ho]; simpa using Ne.symm hk
    rw [rstep0 (hn 1 (by decide)) (hn 2 (by decide)) (hn 3 (by decide)) (hn 4 (by decide)) (hn 5 (by decide)) (hn 6 (by decide)) (hn 7 (by decide)) (hn 8 (by decide)) (hn 9 (by decide)), show s.step t = (s.eff ⟨false, 10, 0, t.base, 0, none, none⟩).tick by unfold SS.step; rw [ho]; rfl]
    exact ⟨ts, List.prefix_rfl, RS.tick (h.eff ⟨_, _, rfl, rfl, by rw [ho]⟩)⟩
theorem RE.uniq (hK : ts.Nodup) {e : SE} {k k' : REff} (h1 : RE ts e k) (h2 : RE ts e k') : k = k' := by
  obtain ⟨x, y, a1, a2, a3⟩ := h1
  obtain ⟨x', y', b1, b2, b3⟩ := h2
  have hu : ∀ {o : Option Tm} {n m : Int}, RO ts o n → RO ts o m → n = m := fun {o n m} g1 g2 => by
    cases o with
    | none => exact g1.trans g2.symm
    | some t => exact RN.uniq hK g1 g2
  rw [a3, b3, hu a1 b1, hu a2 b2]
theorem RE.inj {e e' : SE} {k : REff} (hw : e.wf) (hw' : e'.wf) (h1 : RE ts e k) (h2 : RE ts e' k) : e = e' := by
  obtain ⟨x, y, a1, a2, a3⟩ := h1
  obtain ⟨x', y', b1, b2, b3⟩ := h2
  have hso : ∀ {o o' : Option Tm} {n : Int}, o.isSome → o'.isSome → RO ts o n → RO ts o' n → o = o' := fun {o o' n} g1 g2 g3 g4 => by
    cases o with
    | none => cases g1
    | some t => cases o' with
      | none => cases g2
      | some s => rw [RN.inj (ts := ts) g3 g4]
  obtain ⟨r, o, k1, ba, si, oa, ob⟩ := e
  obtain ⟨r', o', k1', ba', si', oa', ob'⟩ := e'
  have h3 := a3.symm.trans b3
  simp only [REff.mk.injEq] at h3
  obtain ⟨e1, e2, e3, e4, e5, e6⟩ := h3
  subst e1; subst e2; subst e3; subst e4; subst e5; subst e6
  have hfin : r = r' → oa = oa' → ob = ob' → (⟨r, o, k1, ba, si, oa, ob⟩ : SE) = ⟨r', o, k1, ba, si, oa', ob'⟩ := fun q0 q1 q2 => by rw [q0, q1, q2]
  rcases hw with ⟨w1, w2, w3, w4, w5, w6⟩ | ⟨w1, w0, w2⟩ <;> rcases hw' with ⟨v1, v2, v3, v4, v5, v6⟩ | ⟨v1, v0, v2⟩ <;> simp only at *
  · exact hfin (w1.trans v1.symm) (hso w5 v5 a1 b1) (hso w6 v6 a2 b2)
  · rcases v2 with v2 | v2 | v2 | v2 | v2 | v2 <;> (exfalso; have := v2.1; omega)
  · rcases w2 with w2 | w2 | w2 | w2 | w2 | w2 <;> (exfalso; have := w2.1; omega)
  · have hr := w1.trans v1.symm
    rcases w2 with ⟨u1, u2, u3, u4⟩ | ⟨u1, u3, u4⟩ | ⟨u1, u3, u4⟩ | ⟨u1, u2, u5, u3, u4⟩ | ⟨u1, u2, u5, u3, u4⟩ | ⟨u1, u2, u3, u4⟩ <;>
      rcases v2 with ⟨q1, q2, q3, q4⟩ | ⟨q1, q3, q4⟩ | ⟨q1, q3, q4⟩ | ⟨q1, q2, q5, q3, q4⟩ | ⟨q1, q2, q5, q3, q4⟩ | ⟨q1, q2, q3, q4⟩ <;> first
        | (exfalso; omega)
        | exact hfin hr (hso u3 q3 a1 b1) (u4.trans q4.symm)
        | exact hfin hr (hso u3 q3 a1 b1) (hso u4 q4 a2 b2)
        | exact hfin hr (u3.trans q3.symm) (u4.trans q4.symm)
end
def BFunc.words (f : BFunc) : Prop := ∀ x ∈ f.blocks, insW x.ins
structure Cert.Ok (c : Cert) : Prop where
  len : c.same.length * 24 ≤ reachBytes
  rows : ∀ r ∈ c.same, r.length * 1 ≤ reachBytes
def Tm.pure (R : Nat) : Tm → Prop
  | .old v => v < R
  | .own _ => False
  | .op _ a b => a.pure R ∧ b.pure R
  | _ => True
def Tm.inR (row : List Bool) : Tm → Prop
  | .old v => row[v]? = some true
  | .own _ => False
  | .op _ a b => a.inR row ∧ b.inR row
  | _ => True
def opure (R : Nat) : Option Tm → Prop
  | none => True
  | some t => t.pure R
def oinR (row : List Bool) : Option Tm → Prop
  | none => True
  | some t => t.inR row
def SE.pure (R : Nat) (e : SE) : Prop := opure R e.a ∧ opure R e.b
def SE.inR (row : List Bool) (e : SE) : Prop := oinR row e.a ∧ oinR row e.b
structure SS.pure (R : Nat) (s : SS) : Prop where
  regs : ∀ t ∈ s.regs, t.pure R
  effs : ∀ e ∈ s.effs, e.pure R
def gsame (R : Nat) (x y : Block) (c : Cert) (i : Int) (next : List Int) : Prop :=
  (srun (symR R) x.ins).effs = (srun (symR R) y.ins).effs ∧ (∀ e ∈ (srun (symR R) y.ins).effs, e.inR (c.at' i)) ∧
  (x.fin = 2 → tget (srun (symR R) x.ins).regs x.v = tget (srun (symR R) y.ins).regs y.v ∧ (tget (srun (symR R) y.ins).regs y.v).inR (c.at' i)) ∧
  ∀ k ∈ next, ∀ j : Nat, (c.at' k)[j]? = some true → tget (srun (symR R) x.ins).regs (j : Int) = tget (srun (symR R) y.ins).regs (j : Int) ∧ (tget (srun (symR R) y.ins).regs (j : Int)).inR (c.at' i)
structure GCheck (old new : BFunc) (c : Cert) : Prop where
  sh : vshaped old new = true
  len : c.same.length = old.blocks.length
  rows : ∀ r ∈ c.same, (r.length : Int) = old.regs
  b : ∀ (k : Nat) (x y : Block), old.blocks[k]? = some x → new.blocks[k]? = some y → gsame old.regs.toNat x y c (k : Int) x.nexts
theorem vshaped_symm {old new : BFunc} (h : vshaped old new = true) : vshaped new old = true := by
  have hV := vshaped_of h
  refine vshaped_yes hV.regs.symm hV.len.symm hV.sn hV.so ?_
  rw [List.all_eq_true]
  rintro ⟨y, x⟩ hp
  obtain ⟨k, hk⟩ := List.mem_iff_getElem?.1 hp
  rw [List.getElem?_zip_eq_some] at hk
  obtain ⟨e1, e2, e3⟩ := hV.b k x y hk.2 hk.1
  simp [shapeB, e1, e2, e3]
theorem nexts_same {x y : Block} (h : x.fin = y.fin ∧ x.to = y.to ∧ x.els = y.els) : x.nexts = y.nexts := by
  unfold Block.nexts; rw [h.1, h.2.1, h.2.2]
theorem GCheck.symm {old new : BFunc} {c : Cert} (h : GCheck old new c) : GCheck new old c := by
  have hV := vshaped_of h.sh
  refine ⟨vshaped_symm h.sh, h.len.trans hV.len, fun r hr => by rw [← hV.regs]; exact h.rows r hr, fun k y x hy hx => ?_⟩
  have hb := hV.b k x y hx hy
  obtain ⟨g1, g2, g3, g4⟩ := h.b k x y hx hy
  rw [← hV.regs]
  refine ⟨g1.symm, by rw [g1]; exact g2, fun hf => ?_, fun q hq j hj => ?_⟩
  · obtain ⟨a1, a2⟩ := g3 (hb.1.trans hf)
    exact ⟨a1.symm, by rw [a1]; exact a2⟩
  · obtain ⟨a1, a2⟩ := g4 q (by rw [nexts_same hb]; exact hq) j hj
    exact ⟨a1.symm, by rw [a1]; exact a2⟩
def andC (c d : Cert) : Cert := ⟨(c.same.zip d.same).map fun p => (p.1.zip p.2).map fun q => q.1 && q.2⟩
theorem andC_at {c d : Cert} {k : Int} {j : Nat} (hk : 0 ≤ k ∧ k < c.same.length) (hl : c.same.length = d.same.length) : ((andC c d).at' k)[j]? = some true ↔ (c.at' k)[j]? = some true ∧ (d.at' k)[j]? = some true := by
  obtain ⟨r, hr⟩ := get_of_lt (l := c.same) (k := k.toNat) (by omega)
  obtain ⟨s, hs⟩ := get_of_lt (l := d.same) (k := k.toNat) (by omega)
  unfold Cert.at' andC
  rw [List.getElem?_map, zip_at hr hs, hr, hs]
  simp only [Option.map_some, Option.getD_some, List.getElem?_map]
  cases e1 : r[j]? with
  | none =>
    have : (r.zip s)[j]? = none := by
      rw [List.getElem?_eq_none_iff] at e1 ⊢
      rw [List.length_zip]; omega
    rw [this]; simp
  | some a =>
    cases e2 : s[j]? with
    | none =>
      have : (r.zip s)[j]? = none := by
        rw [List.getElem?_eq_none_iff] at e2 ⊢
        rw [List.length_zip]; omega
      rw [this]; simp
    | some b => rw [zip_at e1 e2]; simp
theorem Tm.inR_and {r s t : List Bool} (h : ∀ j : Nat, r[j]? = some true → s[j]? = some true → t[j]? = some true) : ∀ {x : Tm}, x.inR r → x.inR s → x.inR t
  | .old v, h1, h2 => h v h1 h2
  | .own _, h1, _ => h1.elim
  | .op _ a b, h1, h2 => ⟨Tm.inR_and h h1.1 h2.1, Tm.inR_and h h1.2 h2.2⟩
  | .cst _, _, _ => trivial
  | .ld _ _, _, _ => trivial
  | .unk _, _, _ => trivial
theorem oinR_and {r s t : List Bool} (h : ∀ j : Nat, r[j]? = some true → s[j]? = some true → t[j]? = some true) {x : Option Tm} (h1 : oinR r x) (h2 : oinR s x) : oinR t x := by
  cases x with
  | none => trivial
  | some x => exact Tm.inR_and h h1 h2
theorem vshaped_trans {a b c : BFunc} (h1 : vshaped a b = true) (h2 : vshaped b c = true) : vshaped a c = true := by
  have hV := vshaped_of h1
  have hW := vshaped_of h2
  refine vshaped_yes (hV.regs.trans hW.regs) (hV.len.trans hW.len) hV.so hW.sn ?_
  rw [List.all_eq_true]
  rintro ⟨x, z⟩ hp
  obtain ⟨k, hk⟩ := List.mem_iff_getElem?.1 hp
  rw [List.getElem?_zip_eq_some] at hk
  obtain ⟨y, hy⟩ := get_of_lt (l := b.blocks) (k := k) (by rw [← hV.len]; exact (List.getElem?_eq_some_iff.1 hk.1).1)
  obtain ⟨e1, e2, e3⟩ := hV.b k x y hk.1 hy
  obtain ⟨f1, f2, f3⟩ := hW.b k y z hy hk.2
  simp [shapeB, e1, e2, e3, f1, f2, f3]
theorem GCheck.trans {a b c : BFunc} {e f : Cert} (h1 : GCheck a b e) (h2 : GCheck b c f) : GCheck a c (andC e f) := by
  have hV := vshaped_of h1.sh
  have hW := vshaped_of h2.sh
  have hS := stands_of hV.so
  have hll : e.same.length = f.same.length := by rw [h1.len, h2.len, hV.len]
  refine ⟨vshaped_trans h1.sh h2.sh, by simp [andC, hll, h2.len, hV.len], fun r hr => ?_, fun k x z hx hz => ?_⟩
  · simp only [andC, List.mem_map] at hr
    obtain ⟨⟨p, q⟩, hpq, rfl⟩ := hr
    have hp := h1.rows p (List.of_mem_zip hpq).1
    have hq := h2.rows q (List.of_mem_zip hpq).2
    rw [← hV.regs] at hq
    simp only [List.length_map, List.length_zip]
    omega
  · have hk := (List.getElem?_eq_some_iff.1 hx).1
    obtain ⟨y, hy⟩ := get_of_lt (l := b.blocks) (k := k) (by rw [← hV.len]; exact hk)
    have hb := hV.b k x y hx hy
    obtain ⟨g1, g2, g3, g4⟩ := h1.b k x y hx hy
    have hq := h2.b k y z hy hz
    rw [← hV.regs] at hq
    obtain ⟨q1, q2, q3, q4⟩ := hq
    have hkk : 0 ≤ (k : Int) ∧ (k : Int) < e.same.length := by rw [h1.len]; omega
    have hand : ∀ j, (e.at' (k : Int))[j]? = some true → (f.at' (k : Int))[j]? = some true → ((andC e f).at' (k : Int))[j]? = some true := fun j u v => (andC_at hkk hll).2 ⟨u, v⟩
    refine ⟨g1.trans q1, fun s hs => ?_, fun hf => ?_, fun m hm j hj => ?_⟩
    · have u1 := g2 s (by rw [q1]; exact hs)
      have u2 := q2 s hs
      exact ⟨oinR_and hand u1.1 u2.1, oinR_and hand u1.2 u2.2⟩
    · obtain ⟨u1, u2⟩ := g3 hf
      obtain ⟨w1, w2⟩ := q3 (hb.1.symm.trans hf)
      exact ⟨u1.trans w1, Tm.inR_and hand (by rw [← w1]; exact u2) w2⟩
    · have hmr := hS.next x (List.mem_of_getElem? hx) m hm
      obtain ⟨j1, j2⟩ := (andC_at (by rw [h1.len]; exact hmr) hll).1 hj
      obtain ⟨u1, u2⟩ := g4 m hm j j1
      obtain ⟨w1, w2⟩ := q4 m (by rw [← nexts_same hb]; exact hm) j j2
      exact ⟨u1.trans w1, Tm.inR_and hand (by rw [← w1]; exact u2) w2⟩
structure Mach.Le (m m' : Mach) : Prop where
  words : m'.words = m.words
  out : m'.out = m.out
  read : m'.read = m.read
  fin : m'.fin = m.fin
  steps : m'.steps ≤ m.steps
def Mach.Sim (x y : Mach) : Prop := x.fin = 5 ∨ x.Le y
theorem Mach.Le.trans {x y z : Mach} (h : x.Le y) (h' : y.Le z) : x.Le z := ⟨h'.words.trans h.words, h'.out.trans h.out, h'.read.trans h.read, h'.fin.trans h.fin, Nat.le_trans h'.steps h.steps⟩
theorem Mach.Sim.trans {x y z : Mach} (h : x.Sim y) (h' : y.Sim z) : x.Sim z := by
  rcases h with h | h
  · exact .inl h
  · rcases h' with h' | h'
    · exact .inl (h.fin.symm.trans h')
    · exact .inr (h.trans h')
theorem Mach.Le.refl (m : Mach) : m.Le m := ⟨rfl, rfl, rfl, rfl, Nat.le_refl _⟩
theorem Mach.Le.put {m m' : Mach} (h : m.Le m') (w : List Int) (o : List UInt8) (r : Nat) (f : Int) : Mach.Le ⟨w, o, r, m.steps, f⟩ ⟨w, o, r, m'.steps, f⟩ := ⟨rfl, rfl, rfl, rfl, h.steps⟩
section
variable {call call' : Int → Mach → Mach} {s : ByteArray} {fuel : Int}
def callsSim (call call' : Int → Mach → Mach) (ok : Int → Prop) : Prop := ∀ i m m', ok i → m.fin = 0 → m.Le m' → (call i m).Sim (call' i m')
end
structure Core where
  words : List Int
  out : List UInt8
  read : Nat
  cnt : Nat
def Mach.core (m : Mach) : Core := ⟨m.words, m.out, m.read, m.steps⟩
structure EH where
  mems : List (List Int)
  unks : List Int
  core : Core
def ev (ρ : List Int) (h : EH) : Tm → Int
  | .old v => rget ρ (v : Int)
  | .own _ => 0
  | .cst n => n
  | .op k a b => (wapp k (ev ρ h a) (ev ρ h b)).1
  | .ld b τ => rget ((h.mems[τ.toNat]?).getD []) b
  | .unk n => (h.unks[n]?).getD 0
def Tm.sc (n m : Nat) : Tm → Prop
  | .op _ a b => a.sc n m ∧ b.sc n m
  | .ld _ τ => τ.toNat < m
  | .unk k => k < n
  | _ => True
structure EH.Ext (h h' : EH) : Prop where
  mems : ∃ l, h'.mems = h.mems ++ l
  unks : ∃ l, h'.unks = h.unks ++ l
theorem EH.Ext.refl (h : EH) : h.Ext h := ⟨⟨[], by simp⟩, ⟨[], by simp⟩⟩
section
variable (call : Int → Mach → Mach) (s : ByteArray) (ρ : List Int)
end
section
variable {call call' : Int → Mach → Mach} {s : ByteArray} {ρ ρ' : List Int}
end
structure Inv (ρ : List Int) (S : SS) (regs : List Int) (m : Mach) (h : EH) : Prop where
  len : regs.length = S.regs.length
  reg : ∀ z, rget regs z = ev ρ h (tget S.regs z)
  sc : ∀ t ∈ S.regs, t.sc h.unks.length h.mems.length
  core : h.core = m.core
  un : h.unks.length = S.effs.length
  tm : 0 ≤ S.time ∧ h.mems.length = S.time.toNat + 1
  mem : h.mems[S.time.toNat]? = some m.words
  fin : m.fin = 0
theorem get_set {α : Type} (l : List α) (a b : Nat) (v d : α) : ((l.set a v)[b]?).getD d = if a = b ∧ a < l.length then v else (l[b]?).getD d := by
  by_cases h : a = b
  · subst h
    by_cases hl : a < l.length
    · rw [List.getElem?_set_self hl, if_pos ⟨rfl, hl⟩]; rfl
    · rw [if_neg (by intro h; exact hl h.2), List.set_eq_of_length_le (by omega)]
  · rw [List.getElem?_set_ne h, if_neg (by intro g; exact h g.1)]
section
variable {ρ : List Int} {S : SS} {regs : List Int} {m : Mach} {h : EH}
theorem Inv.put (hI : Inv ρ S regs m h) (d : Int) {t : Tm} {v : Int} (ht : t.sc h.unks.length h.mems.length) (hv : v = ev ρ h t) : Inv ρ (S.put d t) (rset regs d v) m h := by
  refine ⟨by simp [rset, SS.put, tset, hI.len], fun z => ?_, fun x hx => ?_, hI.core, hI.un, hI.tm, hI.mem, hI.fin⟩
  · have h1 := hI.reg z
    show ((regs.set d.toNat v)[z.toNat]?).getD 0 = ev ρ h (((S.regs.set d.toNat t)[z.toNat]?).getD (.cst 0))
    rw [get_set, get_set, hI.len]
    split
    · exact hv
    · exact h1
  · have hx' : x ∈ S.regs.set d.toNat t := hx
    rcases List.mem_or_eq_of_mem_set hx' with hx | rfl
    · exact hI.sc x hx
    · exact ht
end
section
variable {call call' : Int → Mach → Mach} {s : ByteArray} {ρ : List Int}
end
def kins (call : Int → Mach → Mach) (s : ByteArray) : List Tac → List Int → Mach → Bool × List Int × Mach
  | [], regs, m => (true, regs, m)
  | t :: r, regs, m => bif (mone call s t regs m).2.fin == 0 then kins call s r (mone call s t regs m).1 (mone call s t regs m).2 else (false, mone call s t regs m)
theorem idx_mapZ {α : Type} {l : List α} {f : α → List AV} {n : Int} {x : α} (h : l[n.toNat]? = some x) : (l.map f)[n.toNat]? = some (f x) := by rw [List.getElem?_map, h]; rfl
theorem weak_nils (n : Nat) : ∀ (i : Nat) (cs cs' : List AV), (List.replicate n [AV.nil])[i]? = some cs → (List.replicate n [AV.lst false []])[i]? = some cs' → cs'.length = cs.length ∧ ∀ (j : Nat) (x y : AV), cs[j]? = some x → cs'[j]? = some y → y.cell1 = true ∧ ∀ H v, Rel H noLay x v → Rel H noLay y v := fun i cs cs' h1 h2 => by
  have e1 := List.eq_of_mem_replicate (List.mem_of_getElem? h1)
  have e2 := List.eq_of_mem_replicate (List.mem_of_getElem? h2)
  subst e1; subst e2
  refine ⟨rfl, fun j x y g1 g2 => ?_⟩
  cases j with
  | zero => simp at g1 g2; subst g1; subst g2; exact ⟨rfl, fun H v h => nil_empty h⟩
  | succ j => simp at g1
theorem len_pred {n : Nat} (h : 0 < n) (h2 : n ≤ 100000000) : evalBin .sub (.int .i64 (n : Int)) (.int .i64 1) = some (.int .i64 ((n - 1 : Nat) : Int)) := by
  simp only [evalBin, evalInt, isShift, cond_false, if_true]
  rw [wrap_i64 (by omega) (by omega)]
  congr 2; omega
structure FW where
  s : DS
  es : List (List AV)
  g : Nat
structure FWInv (next : List (List Int)) (tgt : DS) (q : FW) : Prop where
  ok : q.s.ok next
  way : WayIn next.length q.s q.es
  gas : dmu next q.s < q.g
  tgt : drun next q.g q.s = tgt
theorem FWInv.next {next : List (List Int)} {tgt : DS} {q : FW} (h : FWInv next tgt q) {s' : DS} {es' : List (List AV)} {p : Int × Int} (hp : q.s.way.getLast? = some p) (he : dstep next q.s = s') (hw : WayIn next.length s' es') : FWInv next tgt ⟨s', es', q.g - 1⟩ ∧ q.g - 1 < q.g := by
  have hne : q.s.way ≠ [] := fun e => by rw [e] at hp; simp at hp
  have h1 := dstep_mu h.ok hne
  have h2 := h.gas
  have h3 := dstep_ok h.ok
  rw [he] at h1 h3
  refine ⟨⟨h3, hw, by show dmu next s' < q.g - 1; omega, ?_⟩, by omega⟩
  obtain ⟨g, hg⟩ : ∃ g, q.g = g + 1 := ⟨q.g - 1, by omega⟩
  have h4 := h.tgt
  rw [hg, drun_step hne, he] at h4
  rw [hg]; exact h4
theorem FWInv.done {next : List (List Int)} {tgt : DS} {q : FW} (h : FWInv next tgt q) (hn : q.s.way = []) : q.s = tgt := by
  have := h.tgt
  rwa [drun_end hn] at this
def iget (l : List Int) (z : Int) : Int := (l[z.toNat]?).getD 0
def intCells (l : List Int) : List (List AV) := l.map fun n => [AV.int .i64 n]
theorem intCells_len (l : List Int) : (intCells l).length = l.length := by simp [intCells]
def chain (takes : List Int) : Nat → Int → List Int
  | 0, _ => []
  | g + 1, c => bif iget takes c == -1 then [] else iget takes c :: chain takes g (iget takes c)
def ends (takes : List Int) : Nat → Int → Bool
  | 0, c => iget takes c == -1
  | g + 1, c => iget takes c == -1 || ends takes g (iget takes c)
structure FG2 where
  c : Int
  acc : List Int
  g : Nat
structure FInv2 (takes : List Int) (tgt : List Int) (q : FG2) : Prop where
  c : 0 ≤ q.c ∧ q.c < takes.length
  len : q.acc.length + q.g ≤ takes.length + 1
  fin : ends takes q.g q.c = true
  tgt : q.acc ++ chain takes q.g q.c = tgt
theorem FInv2.next {takes : List Int} {tgt : List Int} {q : FG2} (hin : ∀ v ∈ takes, v = -1 ∨ (0 ≤ v ∧ v < takes.length)) (h : FInv2 takes tgt q) (hc : (iget takes q.c != -1) = true) :
    FInv2 takes tgt ⟨iget takes q.c, q.acc ++ [iget takes q.c], q.g - 1⟩ ∧ q.g - 1 < q.g := by
  have hne : (iget takes q.c == -1) = false := by simpa [bne] using hc
  obtain ⟨v, hv⟩ := get_of_lt (l := takes) (k := q.c.toNat) (by have := h.c; omega)
  have hi : iget takes q.c = v := by simp [iget, hv]
  have hlen := h.len
  have hfin := h.fin
  have htgt := h.tgt
  obtain ⟨g, hg⟩ : ∃ g, q.g = g + 1 := by
    cases e : q.g with
    | zero => rw [e] at hfin; simp only [ends, hne] at hfin; cases hfin
    | succ g => exact ⟨g, rfl⟩
  rw [hg] at hfin htgt hlen
  simp only [ends, chain, hne, Bool.false_or, cond_false] at hfin htgt
  rw [hg]
  refine ⟨⟨?_, ?_, hfin, ?_⟩, by simp⟩
  · rcases hin v (List.mem_of_getElem? hv) with e | e
    · rw [hi, e] at hne; simp at hne
    · rw [hi]; exact e
  · simp only [List.length_append, List.length_cons, List.length_nil]
    show q.acc.length + 1 + g ≤ _
    omega
  · show (q.acc ++ [iget takes q.c]) ++ chain takes g (iget takes q.c) = tgt
    rw [List.append_assoc]; exact htgt
theorem FInv2.done {takes : List Int} {tgt : List Int} {q : FG2} (h : FInv2 takes tgt q) (hc : (iget takes q.c != -1) = false) : q.acc = tgt := by
  have hne : (iget takes q.c == -1) = true := by simpa [bne] using hc
  have htgt := h.tgt
  cases e : q.g with
  | zero => rw [e] at htgt; simpa [chain] using htgt
  | succ g => rw [e] at htgt; simpa [chain, hne] using htgt
def BFunc.blockAt (f : BFunc) (i : Int) : Block := (f.blocks[i.toNat]?).getD ⟨[], 0, 0, 0, 0⟩
def lastOf (p : List Int) : Int := p.getLast?.getD 0
def BFunc.joined (f : BFunc) (p : List Int) : List Tac := p.flatMap fun i => (f.blockAt i).ins
def inF (n : Nat) (p : List Int) : Prop := p ≠ [] ∧ ∀ i ∈ p, 0 ≤ i ∧ i < n
section
variable {P : Program} {T : Nat → Option TyI} {o : Oper} {e : AEnv} {h : AHeap}
theorem q_front (hT : TOk P T) {t : TypeId} {x : Operand} {y : Operand} {k : IntKind} {m : Nat} {es : List (List AV)} {i j : TyI} {u : Nat} (ho : o.op = .slice t x none (some y) none) (hx : look e x = some (.lst false es)) (ht : T t = some i) (hk : i.k = .slice u) (hj : T u = some j)
    (hy : look e y = some (.int k (m : Int))) (hm : m ≤ es.length) (hu : ∀ cs ∈ es, cs.length = j.size) : QLoc P o e h [] (.lst false (es.take m)) := by
  have := q_slice_lst (h := h) hT 0 m ho hx ht hk hj rfl ⟨k, hy⟩ (Nat.zero_le _) hm hu
  rw [List.drop_zero] at this
  exact this
theorem q_back (hT : TOk P T) {t : TypeId} {x : Operand} {y : Operand} {k : IntKind} {m : Nat} {es : List (List AV)} {i j : TyI} {u : Nat} (ho : o.op = .slice t x (some y) none none) (hx : look e x = some (.lst false es)) (ht : T t = some i) (hk : i.k = .slice u) (hj : T u = some j)
    (hy : look e y = some (.int k (m : Int))) (hm : m ≤ es.length) (hu : ∀ cs ∈ es, cs.length = j.size) : QLoc P o e h [] (.lst false (es.drop m)) := by
  have := q_slice_lst (h := h) hT m es.length ho hx ht hk hj ⟨k, hy⟩ rfl hm (Nat.le_refl _) hu
  rw [List.take_of_length_le (Nat.le_refl _)] at this
  exact this
end
theorem blockAt_get {f : BFunc} {i : Int} (h : 0 ≤ i ∧ i < f.blocks.length) : f.blocks[i.toNat]? = some (f.blockAt i) := by
  obtain ⟨x, hx⟩ := get_of_lt (l := f.blocks) (k := i.toNat) (by omega)
  rw [BFunc.blockAt, hx]; rfl
theorem ins_sizes (l : List Tac) : (∀ cs ∈ l.map Tac.cells, cs.length = 8) ∧ ∀ cs ∈ l.map Tac.cells, cs.all AV.isPure1 = true := by
  constructor <;> intro cs h <;> simp only [List.mem_map] at h <;> obtain ⟨t, _, rfl⟩ := h <;> rfl
theorem last_get {p : List Int} (h : p ≠ []) : p[p.length - 1]? = some (lastOf p) := by
  rw [← List.getLast?_eq_getElem?, lastOf, List.getLast?_eq_some_getLast h]; rfl
theorem last_mem {p : List Int} (h : p ≠ []) : lastOf p ∈ p := List.mem_of_getElem? (last_get h)
def okAt (f : BFunc) (p : List Int) (j : Nat) : Bool := (f.blockAt (iget p j)).fin == 1 && (f.blockAt (iget p j)).to == iget p ((j + 1 : Nat) : Int)
def followsB (f : BFunc) (p : List Int) : Bool := (List.range (p.length - 1)).all (okAt f p)
def madeR (f : BFunc) : List Tac → List Int → Bool
  | rest, [] => rest.isEmpty
  | rest, i :: r => decide ((f.blockAt i).ins.length ≤ rest.length) && (decide (rest.take (f.blockAt i).ins.length = (f.blockAt i).ins) && madeR f (rest.drop (f.blockAt i).ins.length) r)
def headZ (p : List Int) : Int := p.head?.getD 0
def pathK (paths : List (List Int)) (k : Int) : List Int := (paths[k.toNat]?).getD []
def beginsB (paths : List (List Int)) (k i : Int) : Bool := decide (k ≥ 0) && (decide (k < paths.length) && headZ (pathK paths k) == i)
def leadsTo (last b : Block) (paths : List (List Int)) : Bool := bif b.fin == 1 || b.fin == 2 then beginsB paths b.to last.to else b.to == last.to
def leadsEl (last b : Block) (paths : List (List Int)) : Bool := bif b.fin == 2 then beginsB paths b.els last.els else b.els == last.els
def leadsB (last b : Block) (paths : List (List Int)) : Bool := !(b.fin != last.fin) && (!(b.v != last.v) && (leadsTo last b paths && leadsEl last b paths))
def pathIn (n : Nat) (p : List Int) : Bool := !(p.length == 0) && p.all (fun i => !(decide (i < 0)) && !(decide (i ≥ n)))
def stepB (old new : BFunc) (paths : List (List Int)) (q : List Int × Nat) : Bool := followsB old q.1 && (madeR old (new.blockAt q.2).ins q.1 && leadsB (old.blockAt (lastOf q.1)) (new.blockAt q.2) paths)
def checkB (old new : BFunc) (paths : List (List Int)) : Bool :=
  !(paths.length == 0) && (!(paths.length != new.blocks.length) && (!(old.regs != new.regs) && (paths.all (pathIn old.blocks.length) && (!(headZ (pathK paths 0) != 0) && paths.zipIdx.all (stepB old new paths)))))
theorem pathIn_inF {n : Nat} {p : List Int} (h : pathIn n p = true) : inF n p := by
  simp only [pathIn, Bool.and_eq_true, Bool.not_eq_true', List.all_eq_true, decide_eq_false_iff_not, beq_eq_false_iff_ne] at h
  exact ⟨fun e => h.1 (by rw [e]; rfl), fun i hi => by have := h.2 i hi; omega⟩
theorem range_get {n k : Nat} (h : k < n) : (List.range n)[k]? = some k := by simp [h]
theorem headZ_get {p : List Int} (h : p ≠ []) : p[0]? = some (headZ p) := by
  cases p with
  | nil => exact absurd rfl h
  | cons x r => rfl
theorem pathK_get {paths : List (List Int)} {k : Int} (h : 0 ≤ k ∧ k < paths.length) : paths[k.toNat]? = some (pathK paths k) := by
  obtain ⟨x, hx⟩ := get_of_lt (l := paths) (k := k.toNat) (by omega)
  rw [pathK, hx]; rfl
theorem iget_get {p : List Int} {k : Nat} {y : Int} (h : p[k]? = some y) : iget p k = y := by simp [iget, h]
structure MG where
  k : Nat
  rest : List Tac
theorem madeR_step {f : BFunc} {p : List Int} {rest : List Tac} {k : Nat} {i : Int} (h : p[k]? = some i) : madeR f rest (p.drop k) = (decide ((f.blockAt i).ins.length ≤ rest.length) && (decide (rest.take (f.blockAt i).ins.length = (f.blockAt i).ins) && madeR f (rest.drop (f.blockAt i).ins.length) (p.drop (k + 1)))) := by
  obtain ⟨h1, h2⟩ := List.getElem?_eq_some_iff.1 h
  rw [List.drop_eq_getElem_cons h1, h2]; rfl
theorem tacs_take {l : List Tac} {n : Nat} : (l.map Tac.cells).take n = (l.take n).map Tac.cells := by rw [List.map_take]
theorem tacs_drop {l : List Tac} {n : Nat} : (l.map Tac.cells).drop n = (l.drop n).map Tac.cells := by rw [List.map_drop]
theorem check_bad1 {old new : BFunc} {paths : List (List Int)} (h : ¬ (paths.length ≠ 0 ∧ paths.length = new.blocks.length ∧ old.regs = new.regs)) : checkB old new paths = false := by
  rw [Bool.eq_false_iff]
  intro h2
  simp only [checkB, Bool.and_eq_true, Bool.not_eq_true', beq_eq_false_iff_ne, bne_eq_false_iff_eq] at h2
  exact h ⟨h2.1, h2.2.1, h2.2.2.1⟩
theorem check_bad2 {old new : BFunc} {paths : List (List Int)} (h : paths.all (pathIn old.blocks.length) = false) : checkB old new paths = false := by
  simp only [checkB, h, Bool.false_and, Bool.and_false]
theorem check_bad3 {old new : BFunc} {paths : List (List Int)} (h : (headZ (pathK paths 0) != 0) = true) : checkB old new paths = false := by
  simp only [checkB, h, Bool.not_true, Bool.false_and, Bool.and_false]
theorem check_bad4 {old new : BFunc} {paths : List (List Int)} (h : paths.zipIdx.all (stepB old new paths) = false) : checkB old new paths = false := by
  simp only [checkB, h, Bool.and_false]
theorem check_good {old new : BFunc} {paths : List (List Int)} (h1 : paths.length ≠ 0) (h2 : paths.length = new.blocks.length) (h3 : old.regs = new.regs) (h4 : paths.all (pathIn old.blocks.length) = true) (h5 : (headZ (pathK paths 0) != 0) = false) (h6 : paths.zipIdx.all (stepB old new paths) = true) : checkB old new paths = true := by
  have e1 : (paths.length == 0) = false := by simpa using h1
  have e2 : (paths.length != new.blocks.length) = false := by simp [h2]
  have e3 : (old.regs != new.regs) = false := by simp [h3]
  simp only [checkB, e1, e2, e3, h4, h5, h6]; rfl
section
variable {P : Program} {T : Nat → Option TyI} {o : Oper} {e : AEnv} {h : AHeap}
theorem tac_sizes {l : List Tac} {j : TyI} (h8 : j.size = 8) : ∀ cs ∈ l.map Tac.cells, cs.length = j.size := fun cs h => by
  rw [h8]; exact (ins_sizes l).1 cs h
theorem q_front' (hT : TOk P T) {t : TypeId} {x : Operand} {y : Operand} {k : IntKind} {m : Nat} {z : Int} {l : List Tac} {i j : TyI} {u : Nat} (ho : o.op = .slice t x none (some y) none) (hx : look e x = some (insAV l)) (ht : T t = some i) (hk : i.k = .slice u) (hj : T u = some j ∧ j.size = 8)
    (hy : look e y = some (.int k z)) (hz : z = (m : Int)) (hm : m ≤ l.length) : QLoc P o e h [] (insAV (l.take m)) := by
  subst hz
  have := q_front (h := h) hT ho hx ht hk hj.1 hy (by simpa using hm) (tac_sizes hj.2)
  rwa [tacs_take] at this
theorem q_back' (hT : TOk P T) {t : TypeId} {x : Operand} {y : Operand} {k : IntKind} {m : Nat} {z : Int} {l : List Tac} {i j : TyI} {u : Nat} (ho : o.op = .slice t x (some y) none none) (hx : look e x = some (insAV l)) (ht : T t = some i) (hk : i.k = .slice u) (hj : T u = some j ∧ j.size = 8)
    (hy : look e y = some (.int k z)) (hz : z = (m : Int)) (hm : m ≤ l.length) : QLoc P o e h [] (insAV (l.drop m)) := by
  subst hz
  have := q_back (h := h) hT ho hx ht hk hj.1 hy (by simpa using hm) (tac_sizes hj.2)
  rwa [tacs_drop] at this
end
section
variable {P : Program} {T : Nat → Option TyI} {o : Oper} {e : AEnv} {h : AHeap}
end
def pathsOk (l : List (List Int)) : Prop := l.length * 24 ≤ reachBytes ∧ ∀ p ∈ l, p.length * 8 ≤ reachBytes
theorem pathsOk.len {l : List (List Int)} (h : pathsOk l) : l.length ≤ 10000000000000 ∧ ∀ p ∈ l, p.length ≤ big := by
  have h1 := h.1
  simp only [reachBytes] at h1
  refine ⟨?_, fun p hp => ?_⟩
  · have : l.length * 24 ≤ 140737488351232 := h1
    by_cases e : l.length ≤ 10000000000000
    · exact e
    · exfalso; omega
  · have h2 := h.2 p hp
    simp only [reachBytes] at h2
    simp only [big]; omega
section
variable {A B C : BFunc} {P Q : List (List Int)}
end
section
variable {call call' : Int → Mach → Mach} {s : ByteArray} {fuel : Int}
variable {ok : Int → Prop} {old new : BFunc}
end
def Blocks.put (b : Blocks) (f : BFunc) : Blocks := ⟨b.words, b.funcs.set (b.funcs.length - 1) f⟩
def Mach.tick (m : Mach) : Mach := { m with steps := m.steps + 1 }
def kblk (call : Int → Mach → Mach) (s : ByteArray) (f : BFunc) : Nat → Int → List Int → Mach → Mach
  | 0, _, _, m => { m with fin := 5 }
  | g + 1, i, regs, m =>
    match f.blocks[i.toNat]? with
    | none => m
    | some k => bif (kins call s k.ins regs m.tick).1 && !(k.fin == 3) then kblk call s f g (k.next (kins call s k.ins regs m.tick).2.1) (kins call s k.ins regs m.tick).2.1 (kins call s k.ins regs m.tick).2.2 else (kins call s k.ins regs m.tick).2.2
section
variable {call call' : Int → Mach → Mach} {s : ByteArray} {ok : Int → Prop}
variable {old new : BFunc} {c : Cert}
end
def okT : Int → Prop := fun _ => True
theorem Mach.Le.tick {x y : Mach} (h : x.Le y) : x.tick.Le y.tick := ⟨h.words, h.out, h.read, h.fin, Nat.succ_le_succ h.steps⟩
section
variable {call call' : Int → Mach → Mach} {s : ByteArray}
variable {old new : BFunc}
end
def FSq (f g : BFunc) : Prop := ∀ (call : Int → Mach → Mach) (s : ByteArray) (G : Nat), callsSim call call okT → ∀ m m', m.fin = 0 → m.Le m' →
  (kblk call s f G 0 (List.replicate f.regs.toNat 0) m).Sim (kblk call s g G 0 (List.replicate g.regs.toNat 0) m')
theorem FSq.trans {f g h : BFunc} (h1 : FSq f g) (h2 : FSq g h) : FSq f h := fun call s G hc m m' h0 hl => (h1 call s G hc m m' h0 hl).trans (h2 call s G hc m' m' (hl.fin.trans h0) (Mach.Le.refl _))
section
variable {call call' : Int → Mach → Mach} {s : ByteArray} {fuel : Int}
end
section
variable {call call' : Int → Mach → Mach} {s : ByteArray} {fuel : Int} {K : Nat}
end
structure OPass where
  kind : Int
  cert : Cert
  paths : List (List Int)
  f : BFunc
def OPass.holds (p : OPass) (f : BFunc) : Bool :=
  bif p.kind == 4 then p.cert.same.isEmpty && checkB f p.f p.paths else decide (1 ≤ p.kind ∧ p.kind ≤ 4) && (p.paths.isEmpty && vcheck f p.f p.cert)
def leadsL : BFunc → BFunc → List OPass → Bool
  | f, g, [] => decide (f = g)
  | f, g, p :: r => p.holds f && leadsL p.f g r
def leadsAll : List BFunc → List BFunc → List (List OPass) → Bool
  | f :: fs, g :: gs, l :: ls => leadsL f g l && leadsAll fs gs ls
  | _, _, _ => true
def ocheck (old new : Blocks) (l : List (List OPass)) : Bool :=
  old.right && (new.right && (decide (old.words = new.words) && (decide (old.funcs.length = new.funcs.length) && (decide (l.length = old.funcs.length) && leadsAll old.funcs new.funcs l))))
theorem ocheck_spec {old new : Blocks} {l : List (List OPass)} (h : ocheck old new l = true) : old.right = true ∧ new.right = true ∧ old.words = new.words ∧ old.funcs.length = new.funcs.length ∧ l.length = old.funcs.length ∧ leadsAll old.funcs new.funcs l = true := by
  simpa [ocheck] using h
theorem ocheck_of {old new : Blocks} {l : List (List OPass)} (h1 : old.right = true) (h2 : new.right = true) (h3 : old.words = new.words) (h4 : old.funcs.length = new.funcs.length) (h5 : l.length = old.funcs.length) (h6 : leadsAll old.funcs new.funcs l = true) : ocheck old new l = true := by
  simp [ocheck, h1, h2, h3, h4, h5, h6]
theorem leadsAll_get : ∀ {fs gs : List BFunc} {ls : List (List OPass)}, leadsAll fs gs ls = true → ∀ {i : Nat} {f g : BFunc} {l : List OPass}, fs[i]? = some f → gs[i]? = some g → ls[i]? = some l → leadsL f g l = true
  | f :: fs, g :: gs, l :: ls, h, 0, _, _, _, h1, h2, h3 => by
    simp only [leadsAll, Bool.and_eq_true] at h
    simp at h1 h2 h3
    subst h1; subst h2; subst h3; exact h.1
  | f :: fs, g :: gs, l :: ls, h, i + 1, _, _, _, h1, h2, h3 => by
    simp only [leadsAll, Bool.and_eq_true] at h
    exact leadsAll_get h.2 (by simpa using h1) (by simpa using h2) (by simpa using h3)
  | [], _, _, _, _, _, _, _, h1, _, _ => by simp at h1
  | _ :: _, [], _, _, _, _, _, _, _, h2, _ => by simp at h2
  | _ :: _, _ :: _, [], _, _, _, _, _, _, _, h3 => by simp at h3
theorem leadsAll_of : ∀ {fs gs : List BFunc} {ls : List (List OPass)}, (∀ (i : Nat) (f g : BFunc) (l : List OPass), fs[i]? = some f → gs[i]? = some g → ls[i]? = some l → leadsL f g l = true) → leadsAll fs gs ls = true
  | f :: fs, g :: gs, l :: ls, h => by
    simp only [leadsAll, Bool.and_eq_true]
    exact ⟨h 0 f g l rfl rfl rfl, leadsAll_of fun i a b c h1 h2 h3 => h (i + 1) a b c (by simpa using h1) (by simpa using h2) (by simpa using h3)⟩
  | [], _, _, _ => by unfold leadsAll; rfl
  | _ :: _, [], _, _ => by unfold leadsAll; rfl
  | _ :: _, _ :: _, [], _ => by unfold leadsAll; rfl
theorem leadsL_append {g h : BFunc} : ∀ (l : List OPass) {f : BFunc} {m : List OPass}, leadsL f g l = true → leadsL g h m = true → leadsL f h (l ++ m) = true
  | [], f, m, h1, h2 => by
    have : f = g := by simpa [leadsL] using h1
    subst this; exact h2
  | p :: r, f, m, h1, h2 => by
    simp only [leadsL, Bool.and_eq_true, List.cons_append] at h1 ⊢
    exact ⟨h1.1, leadsL_append r h1.2 h2⟩
def zipApp : List (List OPass) → List (List OPass) → List (List OPass)
  | l :: ls, m :: ms => (l ++ m) :: zipApp ls ms
  | _, _ => []
theorem zipApp_len : ∀ (l m : List (List OPass)), l.length = m.length → (zipApp l m).length = l.length
  | [], [], _ => rfl
  | l :: ls, m :: ms, h => by simp only [zipApp, List.length_cons]; rw [zipApp_len ls ms (by simpa using h)]
  | [], _ :: _, h => by simp at h
  | _ :: _, [], h => by simp at h
theorem zipApp_get : ∀ {l m : List (List OPass)} {i : Nat} {a : List OPass}, (zipApp l m)[i]? = some a → ∃ x y, l[i]? = some x ∧ m[i]? = some y ∧ a = x ++ y
  | l :: ls, m :: ms, 0, a, h => ⟨l, m, rfl, rfl, by simpa [zipApp] using h.symm⟩
  | l :: ls, m :: ms, i + 1, a, h => by
    obtain ⟨x, y, h1, h2, h3⟩ := zipApp_get (l := ls) (m := ms) (i := i) (by simpa [zipApp] using h)
    exact ⟨x, y, by simpa using h1, by simpa using h2, h3⟩
  | [], _, _, _, h => by simp [zipApp] at h
  | _ :: _, [], _, _, h => by simp [zipApp] at h
theorem ocheck_join {a b c : Blocks} {l m : List (List OPass)} (h1 : ocheck a b l = true) (h2 : ocheck b c m = true) (hl : l.length = m.length) : ocheck a c (zipApp l m) = true := by
  obtain ⟨a1, a2, a3, a4, a5, a6⟩ := ocheck_spec h1
  obtain ⟨b1, b2, b3, b4, b5, b6⟩ := ocheck_spec h2
  refine ocheck_of a1 b2 (a3.trans b3) (a4.trans b4) (by rw [zipApp_len _ _ hl, a5]) (leadsAll_of fun i f g x hf hg hx => ?_)
  obtain ⟨u, v, e1, e2, rfl⟩ := zipApp_get hx
  obtain ⟨f2, hf2⟩ := get_of_lt (l := b.funcs) (k := i) (by have := (List.getElem?_eq_some_iff.1 hf).1; omega)
  exact leadsL_append u (leadsAll_get a6 hf hf2 e1) (leadsAll_get b6 hf2 hg e2)
def readsN (op : Int) : Int := bif use1 op then 1 else bif use2 op then 2 else 0
def Tac.rest2 (t : Tac) (f words : Int) : Bool :=
  !((t.op != 1 && t.n != 0) || (t.op != 3 && t.k != 0)) && (!(!arrOp t.op && t.size != 0) &&
  (bif t.op == 1 || (t.op == 2 || (t.op == 8 || t.op == 9)) then t.base == 0
   else bif t.op == 3 then t.base == 0 && (decide (t.k ≥ 4) && decide (t.k ≤ 15))
   else bif t.op == 4 || t.op == 5 then decide (t.base ≥ 0) && decide (t.base < words)
   else bif t.op == 6 || t.op == 7 then decide (t.size ≥ 1) && (decide (t.size ≤ 4096) && (decide (t.base ≥ 0) && decide (t.base ≤ words - t.size)))
   else bif t.op == 10 then decide (t.base ≥ 0) && decide (t.base < f) else false))
def Tac.ins2 (t : Tac) (f regs words : Int) : Bool :=
  (bif setsOp t.op then within t.d regs else t.d == 0) &&
  ((bif use1 t.op then within t.a regs && t.b == 0 else bif use2 t.op then within t.a regs && within t.b regs else t.a == 0 && t.b == 0) &&
   t.rest2 f words)
theorem op_cases {op : Int} (h1 : 1 ≤ op) (h2 : op ≤ 10) : op = 1 ∨ op = 2 ∨ op = 3 ∨ op = 4 ∨ op = 5 ∨ op = 6 ∨ op = 7 ∨ op = 8 ∨ op = 9 ∨ op = 10 := by omega
theorem ins2_fits (t : Tac) (f regs words : Int) : t.ins2 f regs words = t.fits f regs words := by
  by_cases h : 1 ≤ t.op ∧ t.op ≤ 10
  · obtain ⟨op, d, a, b, k, base, size, n⟩ := t
    rw [Bool.eq_iff_iff]
    rcases op_cases h.1 h.2 with e | e | e | e | e | e | e | e | e | e <;> (simp only at e; subst e; simp [Tac.ins2, Tac.fits, Tac.rest2, Tac.rest, Tac.same, Tac.want, Tac.uses, setsOp, use1, use2, baseOp, arrOp, within]) <;> (try omega) <;> (constructor <;> (intro h; simp [h]; try omega))
  · rw [fits_op h]
    have h1 : (t.op == 1) = false := (by rw [beq_eq_false_iff_ne]; omega)
    have h2 : (t.op == 2) = false := (by rw [beq_eq_false_iff_ne]; omega)
    have h3 : (t.op == 3) = false := (by rw [beq_eq_false_iff_ne]; omega)
    have h4 : (t.op == 4) = false := (by rw [beq_eq_false_iff_ne]; omega)
    have h5 : (t.op == 5) = false := (by rw [beq_eq_false_iff_ne]; omega)
    have h6 : (t.op == 6) = false := (by rw [beq_eq_false_iff_ne]; omega)
    have h7 : (t.op == 7) = false := (by rw [beq_eq_false_iff_ne]; omega)
    have h8 : (t.op == 8) = false := (by rw [beq_eq_false_iff_ne]; omega)
    have h9 : (t.op == 9) = false := (by rw [beq_eq_false_iff_ne]; omega)
    have h10 : (t.op == 10) = false := (by rw [beq_eq_false_iff_ne]; omega)
    simp [Tac.ins2, Tac.rest2, h1, h2, h3, h4, h5, h6, h7, h8, h9, h10]
theorem reads1 {op : Int} (h : readsN op = 1) : use1 op = true := by
  unfold readsN at h
  cases e : use1 op <;> cases e2 : use2 op <;> simp_all
theorem reads2 {op : Int} (h : readsN op = 2) : use1 op = false ∧ use2 op = true := by
  unfold readsN at h
  cases e : use1 op <;> cases e2 : use2 op <;> simp_all
theorem reads0 {op : Int} (h : readsN op = 0) : use1 op = false ∧ use2 op = false := by
  unfold readsN at h
  cases e : use1 op <;> cases e2 : use2 op <;> simp_all
theorem readsN_or (op : Int) : readsN op = 0 ∨ readsN op = 1 ∨ readsN op = 2 := by
  unfold readsN
  cases e : use1 op <;> cases e2 : use2 op <;> simp_all
def insSumB (l : List Block) : Nat := (l.map fun x => x.ins.length).sum
theorem insSumB_succ {l : List Block} {k : Nat} {x : Block} (h : l[k]? = some x) : insSumB (l.take (k + 1)) = insSumB (l.take k) + x.ins.length := by
  rw [insSumB, take_succ_eq h]; simp [insSumB]
theorem sum_take_le {α : Type} {l : List α} {p : α → Nat} {k : Nat} : ((l.take k).map p).sum ≤ (l.map p).sum := by
  conv => rhs; rw [← List.take_append_drop k l]
  rw [List.map_append, List.sum_append]; omega
theorem insSumB_take {l : List Block} {k : Nat} : insSumB (l.take k) ≤ insSumB l := sum_take_le
theorem count_sum (l : List Block) : (l.map Block.count).sum = l.length + insSumB l := by
  induction l with
  | nil => rfl
  | cons x l ih => simp only [List.map_cons, List.sum_cons, ih, List.length_cons, insSumB, Block.count]; omega
theorem count_split (f : BFunc) : f.count = f.blocks.length + insSumB f.blocks := count_sum f.blocks
theorem Block.ext5 {x y : Block} (h1 : x.fin = y.fin) (h2 : x.v = y.v) (h3 : x.to = y.to) (h4 : x.els = y.els) (h5 : x.ins = y.ins) : x = y := by
  cases x; cases y; simp_all
theorem Blocks.ext' {x y : Blocks} (h1 : x.words = y.words) (h2 : x.funcs = y.funcs) : x = y := by
  cases x; cases y; simp_all
def OPass.cells (p : OPass) : List AV := [.int .i64 p.kind, rowsAV p.cert.same, pathsAV p.paths, .int .i64 p.f.regs, blocksAV p.f.blocks]
def passesAV (l : List OPass) : AV := .lst false (l.map OPass.cells)
def listAV (ls : List (List OPass)) : AV := .lst false (ls.map fun l => [passesAV l])
structure Blocks.Lim (b : Blocks) : Prop where
  n : b.funcs.length ≤ 1048576
  c : b.count ≤ 1048576
structure BFunc.Lim (f : BFunc) : Prop where
  n : f.blocks.length ≤ 1048576
  c : ∀ x ∈ f.blocks, x.ins.length ≤ 1048576
theorem BFunc.lim_of {f : BFunc} (h : f.count ≤ 1048576) : f.Lim := by
  refine ⟨by have := count_split f; omega, fun x hx => ?_⟩
  have : x.count ≤ f.count := le_sum hx
  simp only [Block.count] at this
  omega
theorem BFunc.Lim.big {f : BFunc} (h : f.Lim) : f.blocks.length ≤ 1000000000000000 ∧ ∀ x ∈ f.blocks, x.ins.length ≤ 1000000000000000 :=
  ⟨Nat.le_trans h.n (by decide), fun x hx => Nat.le_trans (h.c x hx) (by decide)⟩
def low35 (f : BFunc) : Bool := decide (f.regs ≤ 30)
def small35 (b : Blocks) : Bool := decide (b.funcs.length ≤ 6) && (decide (b.words ≤ 400) && (b.right && (decide (b.count ≤ 200) && b.funcs.all low35)))
structure Small35 (b : Blocks) : Prop where
  n : b.funcs.length ≤ 6
  w : b.words ≤ 400
  r : b.right = true
  c : b.count ≤ 200
  g : ∀ f ∈ b.funcs, f.regs ≤ 30
theorem small35_of {b : Blocks} (h : small35 b = true) : Small35 b := by
  simp only [small35, Bool.and_eq_true, decide_eq_true_eq] at h
  exact ⟨h.1, h.2.1, h.2.2.1, h.2.2.2.1, fun f hf => of_decide_eq_true (List.all_eq_true.1 h.2.2.2.2 f hf)⟩
theorem low_take {l : List BFunc} {k : Nat} {f : BFunc} (h : l[k]? = some f) (h1 : (l.take k).all low35 = true) (h2 : f.regs ≤ 30) : (l.take (k + 1)).all low35 = true := by
  rw [List.take_add_one, h, List.all_append, h1]
  simp [low35, h2]
theorem low_no {l : List BFunc} {f : BFunc} (h : f ∈ l) (h2 : ¬ f.regs ≤ 30) : l.all low35 = false := by
  rw [Bool.eq_false_iff]
  intro e
  exact h2 (of_decide_eq_true (List.all_eq_true.1 e f h))
def kind35 (k : Int) : Bool := decide (1 ≤ k ∧ k ≤ 4)
theorem leadsAll_no {fs gs : List BFunc} {ls : List (List OPass)} {i : Nat} {f g : BFunc} {l : List OPass} (hf : fs[i]? = some f) (hg : gs[i]? = some g) (hl : ls[i]? = some l) (h : leadsL f g l = false) : leadsAll fs gs ls = false := by
  rw [Bool.eq_false_iff]
  intro e
  rw [leadsAll_get e hf hg hl] at h
  cases h
def ledTo (fs gs : List BFunc) (ls : List (List OPass)) (k : Nat) : Prop := ∀ i, i < k → ∀ f g l, fs[i]? = some f → gs[i]? = some g → ls[i]? = some l → leadsL f g l = true
theorem ledTo_succ {fs gs : List BFunc} {ls : List (List OPass)} {k : Nat} {f g : BFunc} {l : List OPass} (h : ledTo fs gs ls k) (hf : fs[k]? = some f) (hg : gs[k]? = some g) (hl : ls[k]? = some l) (e : leadsL f g l = true) : ledTo fs gs ls (k + 1) := fun i hi a b c ha hb hc => by
  rcases Nat.lt_or_ge i k with h1 | h1
  · exact h i h1 a b c ha hb hc
  · obtain rfl : i = k := by omega
    rw [hf] at ha; rw [hg] at hb; rw [hl] at hc
    cases ha; cases hb; cases hc
    exact e
theorem ledTo_end {fs gs : List BFunc} {ls : List (List OPass)} {k : Nat} (h : ledTo fs gs ls k) (hk : fs.length ≤ k) : leadsAll fs gs ls = true := leadsAll_of fun i f g l hf hg hl => h i (by have := (List.getElem?_eq_some_iff.1 hf).1; omega) f g l hf hg hl
def atP (f : BFunc) : List OPass → BFunc
  | [] => f
  | p :: r => atP p.f r
theorem atP_snoc (p : OPass) : ∀ (l : List OPass) (f : BFunc), atP f (l ++ [p]) = p.f
  | [], f => rfl
  | a :: l, f => atP_snoc p l a.f
theorem atP_succ {l : List OPass} {k : Nat} {p : OPass} (f : BFunc) (h : l[k]? = some p) : atP f (l.take (k + 1)) = p.f := by
  rw [List.take_add_one, h]; exact atP_snoc p _ f
theorem leadsL_app {g : BFunc} (m : List OPass) : ∀ (l : List OPass) (f : BFunc), leadsL f g (l ++ m) = (leadsL f (atP f l) l && leadsL (atP f l) g m)
  | [], f => by simp [leadsL, atP]
  | a :: l, f => by
    show (a.holds f && leadsL a.f g (l ++ m)) = _
    rw [leadsL_app m l a.f]
    show _ = ((a.holds f && leadsL a.f (atP a.f l) l) && leadsL (atP a.f l) g m)
    rw [Bool.and_assoc]
theorem leadsL_at {f g : BFunc} {l : List OPass} {k : Nat} {p : OPass} (h : l[k]? = some p) (hP : leadsL f (atP f (l.take k)) (l.take k) = true) : leadsL f g l = (p.holds (atP f (l.take k)) && leadsL p.f g (l.drop (k + 1))) := by
  have e : l = l.take k ++ (p :: l.drop (k + 1)) := by
    conv => lhs; rw [← List.take_append_drop k l]
    rw [List.drop_eq_getElem_cons (List.getElem?_eq_some_iff.1 h).1, (List.getElem?_eq_some_iff.1 h).2]
  conv => lhs; rw [e]
  rw [leadsL_app, hP]
  simp [leadsL]
theorem leadsL_succ {f : BFunc} {l : List OPass} {k : Nat} {p : OPass} (h : l[k]? = some p) (hP : leadsL f (atP f (l.take k)) (l.take k) = true) (e : p.holds (atP f (l.take k)) = true) : leadsL f (atP f (l.take (k + 1))) (l.take (k + 1)) = true := by
  rw [atP_succ f h, List.take_add_one, h]
  show leadsL f p.f (l.take k ++ [p]) = true
  rw [leadsL_app, hP]
  simp [leadsL, e]
theorem leadsL_bad {f g : BFunc} {l : List OPass} {k : Nat} {p : OPass} (h : l[k]? = some p) (hP : leadsL f (atP f (l.take k)) (l.take k) = true) (e : p.holds (atP f (l.take k)) = false) : leadsL f g l = false := by
  rw [leadsL_at h hP, e, Bool.false_and]
theorem leadsL_end {f g : BFunc} {l : List OPass} (hP : leadsL f (atP f l) l = true) : leadsL f g l = decide (atP f l = g) := by
  have := leadsL_app (g := g) [] l f
  rw [List.append_nil, hP] at this
  rw [this]; simp [leadsL]
theorem holds_kind {p : OPass} {f : BFunc} (h : kind35 p.kind = false) : p.holds f = false := by
  unfold OPass.holds
  have h4 : (p.kind == 4) = false := by
    rw [beq_eq_false_iff_ne]
    intro e
    rw [e] at h
    simp [kind35] at h
  rw [h4, cond_false]
  rw [show decide (1 ≤ p.kind ∧ p.kind ≤ 4) = false from h, Bool.false_and]
end Go.Proofs.YtbbfelelocccmaaGreat.Sv

namespace Go.Proofs.YtbbfelelocccmaaGreat
open Go Go.ChangeShapes Go.WideShapes Go.ChangeAt Go.RowKit Sv
section
variable {H : Type} {enc : TypeId × Value → H} {P : Program} {W : World} {t e : TypeId}
theorem bulk_one (d : DataW H) : 1 ≤ Rows.uptoBulk d := by
  cases d with
  | lit l => cases l <;> simp [Rows.uptoBulk]
  | _ => simp [Rows.uptoBulk]
theorem bulk_part : ∀ {l : List (DataW H)} {i : Nat} {d : DataW H}, l[i]? = some d → Rows.uptoBulk d ≤ Rows.uptoBulkAll l
  | x :: l, 0, d, h => by simp at h; subst h; simp only [Rows.uptoBulkAll]; omega
  | x :: l, i + 1, d, h => by
    have := bulk_part (l := l) (i := i) (by simpa using h)
    simp only [Rows.uptoBulkAll]; omega
theorem bulk_sum : ∀ (l : List (DataW H)), (l.map Rows.uptoBulk).sum = Rows.uptoBulkAll l
  | [] => by simp [Rows.uptoBulkAll]
  | x :: l => by simp only [List.map_cons, List.sum_cons, Rows.uptoBulkAll, bulk_sum l]
def DecR (enc : TypeId × Value → H) (P : Program) (W : World) (t : TypeId) {α : Type} (f : α → List AV) (Q : α → Nat → Prop) : Prop :=
  ∀ (fuel : Nat) (cs : List Value) (x : DataW H × List MemPlace), DataW.trod enc P W 0 (fun _ => true) true fuel t cs = some x → (x.1.weights P t).all (· ≤ reachBytes) = true → ∃ a, Reads W cs (f a) ∧ Q a (Rows.uptoBulk x.1)
theorem DecR.of {α : Type} {f : α → List AV} {Q : α → Prop} (h : Dec enc P W t f Q) : DecR enc P W t f (fun a n => Q a ∧ 1 ≤ n) := fun fuel cs x hx hw => by
  obtain ⟨a, h1, h2⟩ := h fuel cs x hx hw
  exact ⟨a, h1, h2, bulk_one _⟩
theorem DecR.mono {α : Type} {f : α → List AV} {Q Q' : α → Nat → Prop} (h : DecR enc P W t f Q) (hq : ∀ a n, Q a n → Q' a n) : DecR enc P W t f Q' := fun fuel cs x hx hw => by
  obtain ⟨a, h1, h2⟩ := h fuel cs x hx hw
  exact ⟨a, h1, hq _ _ h2⟩
def PartsQ {α : Type} (Q : α → Nat → Prop) (l : List α) (n : Nat) : Prop := ∃ ns : List Nat, ns.length = l.length ∧ ns.sum + 1 ≤ n ∧ ∀ (i : Nat) (a : α) (m : Nat), l[i]? = some a → ns[i]? = some m → Q a m
theorem PartsQ.all {α : Type} {Q : α → Nat → Prop} {l : List α} {n : Nat} (h : PartsQ Q l n) : ∀ a ∈ l, ∃ m, Q a m ∧ m + 1 ≤ n := fun a ha => by
  obtain ⟨ns, h1, h2, h3⟩ := h
  obtain ⟨i, hi⟩ := List.getElem?_of_mem ha
  obtain ⟨m, hm⟩ := get_of_lt (l := ns) (k := i) (by have := (List.getElem?_eq_some_iff.1 hi).1; omega)
  have : m ≤ ns.sum := by
    have := le_sum (p := id) (List.mem_of_getElem? hm)
    simpa using this
  exact ⟨m, h3 i a m hi hm, by omega⟩
theorem sum_le_of {α : Type} {μ : α → Nat} : ∀ {l : List α} {ns : List Nat}, ns.length = l.length → (∀ (i : Nat) (a : α) (m : Nat), l[i]? = some a → ns[i]? = some m → μ a ≤ m) → (l.map μ).sum ≤ ns.sum
  | [], _, _, _ => by simp
  | a :: l, [], h, _ => by simp at h
  | a :: l, m :: ns, h, hq => by
    have h1 := hq 0 a m rfl rfl
    have h2 := sum_le_of (l := l) (ns := ns) (by simpa using h) fun i b k hb hk => hq (i + 1) b k (by simpa using hb) (by simpa using hk)
    simp only [List.map_cons, List.sum_cons]; omega
theorem PartsQ.sum {α : Type} {Q : α → Nat → Prop} {l : List α} {n : Nat} (h : PartsQ Q l n) (μ : α → Nat) (hμ : ∀ a m, Q a m → μ a ≤ m) : (l.map μ).sum + 1 ≤ n := by
  obtain ⟨ns, h1, h2, h3⟩ := h
  have := sum_le_of (μ := μ) h1 fun i a m ha hm => hμ a m (h3 i a m ha hm)
  omega
theorem sum_ones {α : Type} : ∀ (l : List α), (l.map fun _ => 1).sum = l.length
  | [] => rfl
  | a :: l => by simp only [List.map_cons, List.sum_cons, List.length_cons, sum_ones l]; omega
theorem PartsQ.len {α : Type} {Q : α → Nat → Prop} {l : List α} {n : Nat} (h : PartsQ Q l n) (h1 : ∀ a m, Q a m → 1 ≤ m) : l.length + 1 ≤ n := by
  have := h.sum (fun _ => 1) h1
  rwa [sum_ones] at this
theorem DecR.slice {α : Type} {f : α → List AV} {Q : α → Nat → Prop} (ht : P.underlying t = some (.slice e)) (hc : 0 < P.cellsOf e) (he : DecR enc P W e f Q) :
    DecR enc P W t (fun l : List α => [.lst false (l.map f)]) (fun l n => l.length * P.bytesOf e ≤ reachBytes ∧ PartsQ Q l n) := fun fuel cs x h hw => by
  rcases DataW.trod_slice ht h with ⟨rfl, rfl⟩ | ⟨a, len, cap, elems, rest, n, rfl, rfl, rfl, hb, hl, hm, hlen, hel, hsp, hns⟩
  · exact ⟨[], .one (.lst0 _ _ _ _ (fun h => by cases h) (Nat.zero_le _) (fun _ => rfl) trivial) rfl, by simp, [], rfl, by simpa using bulk_one _, fun i a m h => by simp at h⟩
  simp only [DataW.weights, ht, List.all_cons, List.all_append, Bool.and_eq_true, decide_eq_true_eq, List.length_map] at hw
  obtain ⟨w1, w2, w3⟩ := hw
  have key : ∀ i, i < len → ∃ y, ∃ cs', W.cells? 0 (a.add (i * P.cellsOf e)) (P.cellsOf e) = some cs' ∧ Reads W cs' (f y) ∧ ∃ d, (elems.map (·.1))[i]? = some d ∧ Q y (Rows.uptoBulk d) := fun i hi => by
    have h1 := hel i hi
    have hlt : i < elems.length := by omega
    rw [List.getElem?_eq_getElem hlt] at h1
    rw [Option.bind_eq_some_iff] at h1
    obtain ⟨cs', c1, c2⟩ := h1
    have hd : (elems.map (·.1))[i]? = some elems[i].1 := by rw [List.getElem?_map, List.getElem?_eq_getElem hlt]; rfl
    obtain ⟨y, y1, y2⟩ := he _ _ _ c2 (weightsAll_get w2 (i := i) hd)
    exact ⟨y, cs', c1, y1, _, hd, y2⟩
  obtain ⟨l, l1, l2⟩ := exists_list len key
  have hQ : PartsQ Q l (Rows.uptoBulk (.slice (elems.map (·.1)) (rest.map (·.1)))) := by
    refine ⟨(elems.map (·.1)).map Rows.uptoBulk, by simp [l1, hlen], ?_, fun i y m hy hm => ?_⟩
    · rw [bulk_sum]; simp only [Rows.uptoBulk]; omega
    · obtain ⟨cs', _, _, d, hd, q⟩ := l2 i y hy
      rw [List.getElem?_map, hd] at hm
      cases hm
      exact q
  have hbytes : l.length * P.bytesOf e ≤ reachBytes := by
    refine Nat.le_trans (Nat.mul_le_mul_right _ ?_) w1
    omega
  refine ⟨l, .one ?_ rfl, hbytes, hQ⟩
  by_cases h0 : len = 0
  · have : l = [] := List.length_eq_zero_iff.1 (by omega)
    subst this; subst h0
    exact .lst0 _ _ _ _ (fun h => by cases h) hm (fun h => by cases h) trivial
  · obtain ⟨y0, cs0, k1, k2, k3⟩ := key 0 (by omega)
    obtain ⟨_, m1, m2⟩ := World.cells?_some k1
    have hz : cs0[0]? = some cs0[0] := List.getElem?_eq_getElem (by omega)
    have hcell := m2 0 hc
    rw [hz] at hcell
    have ha0 : (a.add (0 * P.cellsOf e)).add 0 = a := by simp [Addr.add]
    rw [ha0] at hcell
    obtain ⟨c, hH, hspot, _⟩ := heapKnow_cell hcell
    obtain ⟨ab, ao, asp⟩ := a
    simp only at hspot hH
    subst hspot
    have hsz : ∀ (i : Nat) (xs : List AV), (l.map f)[i]? = some xs → xs.length = P.cellsOf e ∧ ∀ (j : Nat) (x : AV), xs[j]? = some x → ∃ v, c[ao + i * P.cellsOf e + j]? = some v ∧ Rel (heapKnow W) noLay x v ∧ x.cell1 = true := fun i xs hi => by
      rw [List.getElem?_map, Option.map_eq_some_iff] at hi
      obtain ⟨y, y1, rfl⟩ := hi
      obtain ⟨cs', c1, c2, c3⟩ := l2 i y y1
      obtain ⟨_, n1, n2⟩ := World.cells?_some c1
      refine ⟨by rw [c2.1, n1], fun j x hj => ?_⟩
      have hjlt : j < cs'.length := by rw [← c2.1]; exact (List.getElem?_eq_some_iff.1 hj).1
      have h3 := n2 j (by omega)
      rw [List.getElem?_eq_getElem hjlt, add_mk, add_mk] at h3
      obtain ⟨c', e1, _, e3⟩ := heapKnow_cell h3
      simp only at e1 e3
      rw [hH] at e1; cases e1
      obtain ⟨g1, g2⟩ := c2.2 j x _ hj (List.getElem?_eq_getElem hjlt)
      exact ⟨_, e3, g1, g2⟩
    have := Rel.lst (H := heapKnow W) noLay false (l.map f) ab ao cap (P.cellsOf e) c (fun i j => (c[ao + i * P.cellsOf e + j]?).getD undef) (fun hh => by rw [List.map_eq_nil_iff] at hh; subst hh; simp at l1; omega) hH
      (fun i xs hi => (hsz i xs hi).1) (fun i xs j x hi hj => by obtain ⟨v, v1, _⟩ := (hsz i xs hi).2 j x hj; rw [v1]; rfl)
      (fun i xs j x hi hj => by obtain ⟨v, v1, v2, _⟩ := (hsz i xs hi).2 j x hj; rw [v1]; exact v2) (fun i xs j x hi hj => by obtain ⟨v, v1, v2, v3⟩ := (hsz i xs hi).2 j x hj; exact v3) (fun h => by cases h) (by simp [l1]; exact hl) hm
    rw [List.length_map, l1] at this
    exact this
variable {T : Nat → Option TyI}
theorem DecR.slice' {α : Type} {f : α → List AV} {Q : α → Nat → Prop} {i j : TyI} {u : Nat} (hT : TOk P T) (hi : T t = some i) (hk : i.k = .slice u) (hj : T u = some j) (hp : 0 < j.size) (he : DecR enc P W u f Q) :
    DecR enc P W t (fun l : List α => [.lst false (l.map f)]) (fun l n => l.length * j.bytes ≤ reachBytes ∧ PartsQ Q l n) := by
  obtain ⟨info, d, e1, e2, e3, e4, e5, e6⟩ := tyOf_spec (hT _ _ hi)
  have hd := tk_slice (P := P) (d := d) (e3 ▸ hk)
  subst hd
  have := DecR.slice (enc := enc) (W := W) e2 (by rw [cellsOf_of hT hj]; exact hp) he
  rwa [bytesOf_of hT hj] at this
theorem struct_partsR {i : TyI} {fs : List (Nat × Nat)} (hT : TOk P T) (hi : T t = some i) (hk : i.k = .struct fs) {fuel : Nat} {cs : List Value} {x : DataW H × List MemPlace} (h : DataW.trod enc P W 0 (fun _ => true) true fuel t cs = some x) (hw : (x.1.weights P t).all (· ≤ reachBytes) = true) :
    cs.length = i.size ∧ ∀ (i off u : Nat), fs[i]? = some (off, u) → ∀ {α : Type} {f : α → List AV} {Q : α → Nat → Prop}, DecR enc P W u f Q → ∃ a, Reads W ((cs.drop off).take (P.cellsOf u)) (f a) ∧ ∃ m, m + 1 ≤ Rows.uptoBulk x.1 ∧ Q a m := by
  obtain ⟨info, d, e1, e2, e3, e4, e5, e6⟩ := tyOf_spec (hT _ _ hi)
  obtain ⟨A, rfl, rfl, _⟩ := tk_struct (P := P) (d := d) (e3 ▸ hk)
  obtain ⟨xs, n, rfl, rfl, hl, hxl, hx⟩ := DataW.trod_struct e2 h
  refine ⟨by rw [hl, cellsOf_of hT hi], fun j off u hj α f Q hd => ?_⟩
  rw [List.getElem?_map, Option.map_eq_some_iff] at hj
  obtain ⟨F, hF, hF2⟩ := hj
  simp only [Prod.mk.injEq] at hF2
  obtain ⟨rfl, rfl⟩ := hF2
  have hFa : A[j]? = some F := by simpa using hF
  have hjlt : j < xs.length := by rw [hxl]; exact (Array.getElem?_eq_some_iff.1 hFa).1
  have h1 := hx j F hFa
  rw [List.getElem?_eq_getElem hjlt] at h1
  simp only [DataW.weights, e2] at hw
  have hd2 : (xs.map (·.1))[j]? = some xs[j].1 := by rw [List.getElem?_map, List.getElem?_eq_getElem hjlt]; rfl
  obtain ⟨a, a1, a2⟩ := hd _ _ _ h1 (weightsEach_get hw (i := j) (by rw [List.getElem?_map, hF]; rfl) hd2)
  refine ⟨a, a1, _, ?_, a2⟩
  have := bulk_part hd2
  simp only [Rows.uptoBulk]; omega
theorem arg_oneR {α : Type} {f : α → List AV} {Q : α → Nat → Prop} {v : Value} {d : DataW H} {ps : List MemPlace} (h : DataW.Trod enc P W 0 (fun _ => true) true t v d ps) (hw : (d.weights P t).all (· ≤ reachBytes) = true) (hd : DecR enc P W t f Q) : ∃ a, Reads W v.cells.toList (f a) ∧ Q a (Rows.uptoBulk d) := by
  obtain ⟨fuel, hf⟩ := h
  exact hd _ _ _ hf hw
theorem upto_get {ds gs : List (DataW H)} {i : Nat} {d : DataW H} (h : Rows.uptoSmall H (ds ++ gs) = true) (hd : ds[i]? = some d) : Rows.uptoBulk d ≤ 1048576 := by
  have h1 : Rows.uptoBulkAll (ds ++ gs) ≤ 1048576 := of_decide_eq_true h
  have h2 := bulk_part (l := ds ++ gs) (i := i) (d := d) (by rw [List.getElem?_append_left (List.getElem?_eq_some_iff.1 hd).1]; exact hd)
  omega
end
section
variable {H : Type} {enc : TypeId × Value → H} {W : World}
theorem decBlockR : DecR enc Tryz.prog W 80 Block.cells (fun x n => x.Ok ∧ x.count ≤ n) := fun fuel cs x h hw => by
  obtain ⟨a, a1, a2⟩ := decBlock fuel cs x h hw
  obtain ⟨hl, hp⟩ := struct_partsR tok rfl rfl h hw
  obtain ⟨x0, a0, m0, b0, c0, d0⟩ := hp 0 _ _ rfl (DecR.slice' tok rfl rfl rfl (Nat.zero_lt_succ _) (DecR.of decTac))
  obtain ⟨x1, a1', _, _, b1, _⟩ := hp 1 _ _ rfl (DecR.of (Dec.int' tok rfl rfl))
  obtain ⟨x2, a2', _, _, b2, _⟩ := hp 2 _ _ rfl (DecR.of (Dec.int' tok rfl rfl))
  obtain ⟨x3, a3, _, _, b3, _⟩ := hp 3 _ _ rfl (DecR.of (Dec.int' tok rfl rfl))
  obtain ⟨x4, a4, _, _, b4, _⟩ := hp 4 _ _ rfl (DecR.of (Dec.int' tok rfl rfl))
  have k0 := app1 tok rfl rfl (Reads.nil W cs) a0 (Nat.zero_le _)
  have k1 := app1 tok rfl rfl k0 a1' (by rw [hl]; decide)
  have k2 := app1 tok rfl rfl k1 a2' (by rw [hl]; decide)
  have k3 := app1 tok rfl rfl k2 a3 (by rw [hl]; decide)
  have k4 := app1 tok rfl rfl k3 a4 (by rw [hl]; decide)
  refine ⟨⟨x0, x1, x2, x3, x4⟩, k4.all hl, ⟨c0, fun t ht => ?_, wf_i64 b1, wf_i64 b2, wf_i64 b3, wf_i64 b4⟩, ?_⟩
  · obtain ⟨m, hm, _⟩ := d0.all t ht; exact hm.1
  · have := d0.len (fun a m h => h.2)
    simp only [Block.count]
    omega
theorem decBFuncR : DecR enc Tryz.prog W 41 BFunc.cells (fun f n => f.Ok ∧ f.count + 1 ≤ n) := fun fuel cs x h hw => by
  obtain ⟨hl, hp⟩ := struct_partsR tok rfl rfl h hw
  obtain ⟨x0, a0, _, _, b0, _⟩ := hp 0 _ _ rfl (DecR.of (Dec.int' tok rfl rfl))
  obtain ⟨x1, a1, m1, b1, c1, d1⟩ := hp 1 _ _ rfl (DecR.slice' tok rfl rfl rfl (Nat.zero_lt_succ _) decBlockR)
  have k0 := app1 tok rfl rfl (Reads.nil W cs) a0 (Nat.zero_le _)
  have k1 := app1 tok rfl rfl k0 a1 (by rw [hl]; decide)
  refine ⟨⟨x0, x1⟩, k1.all hl, ⟨wf_i64 b0, c1, fun y hy => ?_⟩, ?_⟩
  · obtain ⟨m, hm, _⟩ := d1.all y hy; exact hm.1
  · have := d1.sum Block.count (fun a m h => h.2)
    show (x1.map Block.count).sum + 1 ≤ _
    omega
theorem sum_add1 {α : Type} {p : α → Nat} : ∀ (l : List α), (l.map fun a => p a + 1).sum = (l.map p).sum + l.length
  | [] => rfl
  | a :: l => by simp only [List.map_cons, List.sum_cons, List.length_cons, sum_add1 l]; omega
theorem decBlocksR : DecR enc Tryz.prog W 24 Blocks.cells (fun b n => b.Ok ∧ b.count + b.funcs.length ≤ n) := fun fuel cs x h hw => by
  obtain ⟨hl, hp⟩ := struct_partsR tok rfl rfl h hw
  obtain ⟨x0, a0, _, _, b0, _⟩ := hp 0 _ _ rfl (DecR.of (Dec.int' tok rfl rfl))
  obtain ⟨x1, a1, m1, b1, c1, d1⟩ := hp 1 _ _ rfl (DecR.slice' tok rfl rfl rfl (Nat.zero_lt_succ _) decBFuncR)
  have k0 := app1 tok rfl rfl (Reads.nil W cs) a0 (Nat.zero_le _)
  have k1 := app1 tok rfl rfl k0 a1 (by rw [hl]; decide)
  refine ⟨⟨x0, x1⟩, k1.all hl, ⟨wf_i64 b0, c1, fun y hy => ?_⟩, ?_⟩
  · obtain ⟨m, hm, _⟩ := d1.all y hy; exact hm.1
  · have := d1.sum (fun f => f.count + 1) (fun a m h => h.2)
    rw [sum_add1] at this
    show (x1.map BFunc.count).sum + x1.length ≤ _
    omega
theorem lim_row {b : Blocks} {n : Nat} (h : b.Ok ∧ b.count + b.funcs.length ≤ n) (hn : n ≤ 1048576) : b.Lim := ⟨by omega, by omega⟩
end
end Go.Proofs.YtbbfelelocccmaaGreat

namespace Go.Proofs.YtbbfelelocccmaaGreat.Sv
open Go
def AV.sure : AV → Option Value
  | .bool b => some (.bool b)
  | .int k n => some (.int k n)
  | .str s => some (.string s)
  | .fn f [] [] => some (.func f #[] #[])
  | .val v => some v
  | _ => none
def sureL : List AV → Option (List Value)
  | [] => some []
  | x :: xs => match x.sure, sureL xs with
    | some v, some vs => some (v :: vs)
    | _, _ => none
def AV.whole : AV → Option Value
  | .agg cs => (sureL cs).map fun l => .agg l.toArray
  | x => x.sure
theorem sure_rel {H : Know} {ι : Lay} {x : AV} {v u : Value} (h : Rel H ι x v) (e : x.sure = some u) : v = u := by
  cases h with
  | bool => simpa [AV.sure] using e
  | int => simpa [AV.sure] using e
  | str => simpa [AV.sure] using e
  | val => simpa [AV.sure] using e
  | fn _ f xs cs us vs hx hl h1 h2 =>
    cases xs with
    | cons => simp [AV.sure] at e
    | nil =>
      cases cs with
      | cons => simp [AV.sure] at e
      | nil =>
        have e1 : us = #[] := Array.eq_empty_of_size_eq_zero (by simpa using hx.symm)
        have e2 : vs = #[] := Array.eq_empty_of_size_eq_zero (by simpa using hl.symm)
        subst e1; subst e2
        simpa [AV.sure] using e
  | _ => simp [AV.sure] at e
theorem sureL_get : ∀ {xs : List AV} {l : List Value}, sureL xs = some l → xs.length = l.length ∧ ∀ (j : Nat) (x : AV), xs[j]? = some x → ∃ u, l[j]? = some u ∧ x.sure = some u
  | [], l, h => by simp [sureL] at h; subst h; exact ⟨rfl, fun j x h => by simp at h⟩
  | x :: xs, l, h => by
    unfold sureL at h
    split at h
    · rename_i v vs h1 h2
      simp at h; subst h
      obtain ⟨a1, a2⟩ := sureL_get h2
      refine ⟨by simp [a1], fun j y hj => ?_⟩
      cases j with
      | zero => simp at hj; subst hj; exact ⟨v, rfl, h1⟩
      | succ j => obtain ⟨u, u1, u2⟩ := a2 j y (by simpa using hj); exact ⟨u, by simpa using u1, u2⟩
    · cases h
theorem whole_rel {H : Know} {ι : Lay} {x : AV} {v u : Value} (h : Rel H ι x v) (e : x.whole = some u) : v = u := by
  cases x with
  | agg cs =>
    obtain ⟨us, rfl, hl, hr⟩ := h.agg_inv
    simp only [AV.whole, Option.map_eq_some_iff] at e
    obtain ⟨l, h1, rfl⟩ := e
    obtain ⟨a1, a2⟩ := sureL_get h1
    congr 1
    apply Array.ext (by simp; omega)
    intro i h1 h2
    obtain ⟨x, hx⟩ : ∃ x, cs[i]? = some x := ⟨cs[i]'(by omega), by simp [hl, h1]⟩
    obtain ⟨w, w1, w2⟩ := a2 i x hx
    have := sure_rel (hr i x us[i] hx (by simp [h1])) w2
    rw [this]
    rw [List.getElem?_eq_some_iff] at w1
    obtain ⟨_, w1⟩ := w1
    simp [w1]
  | _ => exact sure_rel h e
section
variable {P : Program} {T : Nat → Option TyI} {o : Oper} {e : AEnv} {h : AHeap}
theorem tk_iface {d : TypeDesc} (h : tkOf P d ≠ .other) : ∀ m, d ≠ .interface m := fun m e => by subst e; exact h rfl
theorem q_iface (hT : TOk P T) {t : TypeId} {x : Operand} {y : AV} {u : Value} {i : TyI} (ho : o.op = .makeInterface t x) (hx : look e x = some y) (hy : y.whole = some u) (ht : T t = some i) (hk : i.k ≠ .other) : QLoc P o e h [] (.val (.iface t u)) := by
  intro H ι a w s hs g1 g2
  have hx' : look s.env x = some y := by rw [g1 x (by rw [ho]; simp [Op.operands]), hx]
  have hv := whole_rel (look_rel hs hx') hy
  obtain ⟨info, d, e1, e2, e3, e4, e5, e6⟩ := tyOf_spec (hT _ _ ht)
  have hd := tk_iface (P := P) (d := d) (e3 ▸ hk)
  refine ⟨.iface t u, .val _ _ rfl, ?_⟩
  simp only [execOp, ho, hv, Instr.makeInterface, Sem.run_bind, run_underlying' e2, Result.andThen_ok]
  cases d with
  | interface m => exact absurd rfl (hd m)
  | _ => rfl
theorem o_invoke {f : FuncId} {fn : Func} {recv : Operand} {name : String} {args : Array Operand} {tys : Array TypeId} {t : TypeId} {v : Value} {x0 : AV} {xs : List AV} {r : AV} (ho : o.op = .call { callee := .invoke recv name, args := args, argTypes := tys })
    (hr : look e recv = some (.val (.iface t v))) (hm : ∀ w, (method (P.types.size + Made.depth) t v name).run P w = .ok (f, v) w) (hv : ∀ H, Rel H noLay x0 v)
    (hf : P.funcs[f]? = some fn) (hn : (fn.name == "runtime.NumGoroutine") = false) (hb : fn.body.isSome = true)
    (hx : lookAll e args.toList = some xs) (hp : xs.all AV.isPure = true) (hc : APure P f (x0 :: xs) (fun r' => r' = r)) : OLoc P o e h [] [] (some r) := by
  intro H ι a w s Q hs g1 g2
  have hx' : lookAll s.env args.toList = some xs := by
    rw [lookAll_agree (e := e) (fun x hx => g1 x z21q)]; exact hx
  have hr' : look s.env recv = some (.val (.iface t v)) := by rw [g1 recv z33q, hr]
  have hre := ((look_rel hs hr').val_inv).1
  have hra := relAll_map hs hx'
  have hra' : RelAll H noLay (x0 :: xs) (#[v] ++ args.map a.eval) := by
    have h1 : RelAll H noLay [x0] #[v] := ⟨rfl, fun j x u h1 h2 => by
      cases j with
      | zero => simp at h1 h2; subst h1; subst h2; exact hv H
      | succ j => simp at h1⟩
    exact relAll_append h1 ⟨hra.1, fun j x u h1 h2 => pure_rel (List.all_eq_true.1 hp x (List.mem_of_getElem? h1)) (hra.2 j x u h1 h2)⟩
  have hcall := hc H w _ hra' (knowOk_of hs.heap)
  have hexec : (execOp a.eval o).run P w = .ok (.enter f (#[v] ++ args.map a.eval)) w := by
    have h0 : (#[Value.iface t v] ++ args.map a.eval)[0]? = some (.iface t v) := by
      rw [Array.getElem?_append_left (by simp)]; rfl
    have hex : (#[Value.iface t v] ++ args.map a.eval).extract 1 (#[Value.iface t v] ++ args.map a.eval).size = args.map a.eval := by
      apply Array.ext'
      simp only [Array.toList_extract, Array.toList_append, Array.toList_map, Array.size_append, Array.size_map, List.extract_eq_take_drop]
      exact List.take_of_length_le (by simp)
    simp only [execOp, ho, resolve, hre, invoke, Sem.run_bind, Sem.run_pure, Result.andThen_ok, h0, hex, callMethod, run_program, hm w, run_callFunc hf hn hb]
  unfold Oper.wp
  rw [hexec]
  refine hcall.mono fun en w' hh => ?_
  obtain ⟨v', r', H', rfl, rfl, k1, k2⟩ := hh
  obtain ⟨u1, u2⟩ := hs.heap.grown k2
  exact ⟨v', H', ι, rfl, (fun x ex => by cases ex; exact k1.mono (KLe.refl _) (LLe.none _)), u1, u2⟩
end
def certV (k : Int) (f : Nat) : Value := .agg #[.int .i64 k, .func (.func f) #[] #[]]
def passV (k : Int) : Value := bif k == 1 then .iface 97 (certV 1 41) else bif k == 2 then .iface 97 (certV 2 42) else bif k == 3 then .iface 97 (certV 3 43) else bif k == 4 then .iface 99 (.agg #[.int .i64 4]) else .nilIface
theorem kind_no {k : Int} (h1 : k ≠ 1) (h2 : k ≠ 2) (h3 : k ≠ 3) (h4 : k ≠ 4) : kind35 k = false := by
  rw [kind35, decide_eq_false_iff_not]; omega
theorem passV_no {k : Int} (h1 : k ≠ 1) (h2 : k ≠ 2) (h3 : k ≠ 3) (h4 : k ≠ 4) : passV k = .nilIface := by
  have a1 : (k == 1) = false := beq_eq_false_iff_ne.2 h1
  have a2 : (k == 2) = false := beq_eq_false_iff_ne.2 h2
  have a3 : (k == 3) = false := beq_eq_false_iff_ne.2 h3
  have a4 : (k == 4) = false := beq_eq_false_iff_ne.2 h4
  simp [passV, a1, a2, a3, a4]
theorem kind_cases {k : Int} (h : kind35 k = true) : k = 1 ∨ k = 2 ∨ k = 3 ∨ k = 4 := by
  have := of_decide_eq_true h
  omega
variable {P : Program} {T : Nat → Option TyI} {ops : Array Oper} {rest : List Oper} {n : Nat} {e : AEnv} {h : AHeap} {o : Oper} {K : AState → Prop} {acc : List (List Nat × List Nat)} {R : List Nat} {W : List (Nat × AObj)} {r p : AV}
theorem aq (d : Nat) (hq : QLoc P o e h R r) (hr : AOps P ops rest ⟨n, eput e d r, h⟩ K) (hd : o.dst = some d := by exact rfl) (hb : Nat.blt d n = true := by exact rfl) (hg : guardIs ops o e = some true := by exact rfl) : AOps P ops (o :: rest) ⟨n, e, h⟩ K := AOps.s d hd hb hg hq hr
theorem ax (d : Nat) (hq : OLoc P o e h R W (some r)) (hr : AOps P ops rest ⟨n, eput e d r, (hputs h W)⟩ K) (hd : o.dst = some d := by exact rfl) (hb : Nat.blt d n = true := by exact rfl) (hg : guardIs ops o e = some true := by exact rfl) : AOps P ops (o :: rest) ⟨n, e, h⟩ K := AOps.x d hd hb hg hq hr
theorem ak (d : Nat) (hr : AOps P ops rest ⟨n, eput e d (.tup []), h⟩ K) (hd : o.dst = some d := by exact rfl) (hb : Nat.blt d n = true := by exact rfl) (hg : guardIs ops o e = some false := by exact rfl) : AOps P ops (o :: rest) ⟨n, e, h⟩ K := AOps.k d hd hb hg hr
theorem am (d : Nat) {x : Operand} (hr : AOps P ops rest ⟨n, eput e d r, h⟩ K) (hd : o.dst = some d := by exact rfl) (hb : Nat.blt d n = true := by exact rfl) (hg : guardIs ops o e = some true := by exact rfl) (ho : o.op = .move x := by exact rfl) (hx : look e x = some r := by exact rfl) : AOps P ops (o :: rest) ⟨n, e, h⟩ K := AOps.s d hd hb hg (q_move (.inl ho) hx) hr
theorem aa (d : Nat) {x : Operand} (hr : AOps P ops rest ⟨n, eput e d r, h⟩ K) (hd : o.dst = some d := by exact rfl) (hb : Nat.blt d n = true := by exact rfl) (hg : guardIs ops o e = some true := by exact rfl) (ho : o.op = .assign x := by exact rfl) (hx : look e x = some r := by exact rfl) : AOps P ops (o :: rest) ⟨n, e, h⟩ K := AOps.s d hd hb hg (q_move (.inr ho) hx) hr
theorem al (d : Nat) {t : TypeId} {x : Operand} {i : TyI} {cs : List AV} (hT : TOk P T) (hr : AOps P ops rest ⟨n, eput e d r, h⟩ K) (hd : o.dst = some d := by exact rfl) (hb : Nat.blt d n = true := by exact rfl) (hg : guardIs ops o e = some true := by exact rfl) (ho : o.op = .load t x := by exact rfl) (hx : look e x = some p := by exact rfl) (hi : T t = some i := by exact rfl) (hp : PtsTo h p R cs := by first | exact .loc _ | exact .ptr _ _ _ _ _ _ _ _ rfl rfl rfl) (hl : loadAV i cs = some r := by exact rfl) : AOps P ops (o :: rest) ⟨n, e, h⟩ K := AOps.s d hd hb hg (q_load hT ho hx hi hp hl) hr
theorem dq (d : Nat) (hq : QLoc P o e h R r) (hr : DOps P ops n rest (eput e d r) h (acc ++ [(R, [])]) K) (hd : o.dst = some d := by exact rfl) (hb : Nat.blt d n = true := by exact rfl) (hg : guardIs ops o e = some true := by exact rfl) : DOps P ops n (o :: rest) e h acc K := DOps.s d hd hb hg hq hr
theorem dx (d : Nat) (hq : OLoc P o e h R W (some r)) (hr : DOps P ops n rest (eput e d r) (hputs h W) (acc ++ [(R, W.map (·.1))]) K) (hd : o.dst = some d := by exact rfl) (hb : Nat.blt d n = true := by exact rfl) (hg : guardIs ops o e = some true := by exact rfl) : DOps P ops n (o :: rest) e h acc K := DOps.x d hd hb hg hq hr
theorem dm (d : Nat) {x : Operand} (hr : DOps P ops n rest (eput e d r) h (acc ++ [([], [])]) K) (hd : o.dst = some d := by exact rfl) (hb : Nat.blt d n = true := by exact rfl) (hg : guardIs ops o e = some true := by exact rfl) (ho : o.op = .move x := by exact rfl) (hx : look e x = some r := by exact rfl) : DOps P ops n (o :: rest) e h acc K := DOps.s d hd hb hg (q_move (.inl ho) hx) hr
theorem da (d : Nat) {x : Operand} (hr : DOps P ops n rest (eput e d r) h (acc ++ [([], [])]) K) (hd : o.dst = some d := by exact rfl) (hb : Nat.blt d n = true := by exact rfl) (hg : guardIs ops o e = some true := by exact rfl) (ho : o.op = .assign x := by exact rfl) (hx : look e x = some r := by exact rfl) : DOps P ops n (o :: rest) e h acc K := DOps.s d hd hb hg (q_move (.inr ho) hx) hr
theorem dl (d : Nat) {t : TypeId} {x : Operand} {i : TyI} {cs : List AV} (hT : TOk P T) (hr : DOps P ops n rest (eput e d r) h (acc ++ [(R, [])]) K) (hd : o.dst = some d := by exact rfl) (hb : Nat.blt d n = true := by exact rfl) (hg : guardIs ops o e = some true := by exact rfl) (ho : o.op = .load t x := by exact rfl) (hx : look e x = some p := by exact rfl) (hi : T t = some i := by exact rfl) (hp : PtsTo h p R cs := by first | exact .loc _ | exact .ptr _ _ _ _ _ _ _ _ rfl rfl rfl) (hl : loadAV i cs = some r := by exact rfl) : DOps P ops n (o :: rest) e h acc K := DOps.s d hd hb hg (q_load hT ho hx hi hp hl) hr
theorem df (d : Nat) {t : TypeId} {x : Operand} {f off u : Nat} {i : TyI} {fs : List (Nat × Nat)} (hT : TOk P T) (hr : DOps P ops n rest (eput e d r) h (acc ++ [([], [])]) K) (hd : o.dst = some d := by exact rfl) (hb : Nat.blt d n = true := by exact rfl) (hg : guardIs ops o e = some true := by exact rfl) (ho : o.op = .fieldAddr t x f := by exact rfl) (hx : look e x = some p := by exact rfl) (hi : T t = some i := by exact rfl) (hk : i.k = .struct fs := by exact rfl) (hf : fs[f]? = some (off, u) := by exact rfl) (hm : moveAV p off = some r := by exact rfl) : DOps P ops n (o :: rest) e h acc K := DOps.s d hd hb hg (q_fieldAddr hT ho hx hi hk hf hm) hr
theorem an {s : AState} (h : K s) : AOps P ops [] s K := AOps.nil h
theorem asr {id : Nat} {os : Array Oper} {c : Code} {s : AState} {Q : Exit → AState → Prop} (h : AOps P os os.toList s (fun s' => AGo P c s' Q)) : AGo P (.seq (.region id os false) c) s Q := AGo.seq (AGo.region h)
theorem act {t : Nat} {x y : Code} {s : AState} {Q : Exit → AState → Prop} (h : AGo P x s Q) (he : s.env t = some (.bool true) := by exact rfl) : AGo P (.cond (.tmp t) x y) s Q := AGo.cond_true true he rfl h
theorem acf {t : Nat} {x y : Code} {s : AState} {Q : Exit → AState → Prop} (h : AGo P y s Q) (he : s.env t = some (.bool false) := by exact rfl) : AGo P (.cond (.tmp t) x y) s Q := AGo.cond_false false he rfl h
theorem apf {d : Nat} {c x y : Operand} (hr : AOps P ops rest ⟨n, eput e d p, h⟩ K) (hd : o.dst = some d := by exact rfl) (hb : Nat.blt d n = true := by exact rfl) (hg : guardIs ops o e = some true := by exact rfl) (ho : o.op = .pick c x y := by exact rfl) (hc : look e c = some (.bool false) := by exact rfl) (hx : look e y = some p := by exact rfl) : AOps P ops (o :: rest) ⟨n, e, h⟩ K := AOps.s d hd hb hg (q_pick_false false ho hc rfl hx) hr
theorem apt {d : Nat} {c x y : Operand} (hr : AOps P ops rest ⟨n, eput e d p, h⟩ K) (hd : o.dst = some d := by exact rfl) (hb : Nat.blt d n = true := by exact rfl) (hg : guardIs ops o e = some true := by exact rfl) (ho : o.op = .pick c x y := by exact rfl) (hc : look e c = some (.bool true) := by exact rfl) (hx : look e x = some p := by exact rfl) : AOps P ops (o :: rest) ⟨n, e, h⟩ K := AOps.s d hd hb hg (q_pick_true true ho hc rfl hx) hr
theorem aqb {d : Nat} {op : BinOp} {t t' : TypeId} {x y : Operand} {q : AV} (hr : AOps P ops rest ⟨n, eput e d r, h⟩ K) (hd : o.dst = some d := by exact rfl) (hb : Nat.blt d n = true := by exact rfl) (hg : guardIs ops o e = some true := by exact rfl) (ho : o.op = .binOp op t x y t' := by exact rfl) (hx : look e x = some p := by exact rfl) (hy : look e y = some q := by exact rfl) (hv : evalBin op p q = some r := by exact rfl) : AOps P ops (o :: rest) ⟨n, e, h⟩ K := AOps.s d hd hb hg (q_bin ho hx hy hv) hr
theorem asp {c : Code} {Q : Exit → AState → Prop} (d : Nat) {b : Bool} (h1 : b = true → AGo P c ⟨n, eput e d (.bool true), h⟩ Q) (h2 : b = false → AGo P c ⟨n, eput e d (.bool false), h⟩ Q) (he : e d = some (.bool b) := by exact rfl) : AGo P c ⟨n, e, h⟩ Q := AGo.split d he h1 h2
theorem aop (d : Nat) {b : Bool} {l : List Oper} (h1 : b = true → AOps P ops l ⟨n, eput e d (.bool true), h⟩ K) (h2 : b = false → AOps P ops l ⟨n, eput e d (.bool false), h⟩ K) (he : e d = some (.bool b) := by exact rfl) : AOps P ops l ⟨n, e, h⟩ K := AOps.split d he h1 h2
theorem obx {t : TypeId} {x : Operand} (sz b : Nat) (ho : o.op = .box t x := by exact rfl) (hx : look e x = some p := by exact rfl) (hb : h b = some .free := by exact rfl) (hsz : p.cells.length = sz := by exact rfl) (hp : 0 < sz := by exact Nat.zero_lt_succ _) (h1 : p.cells.all AV.cell1 = true := by exact rfl) : OLoc P o e h [b] [(b, .row false sz [p.cells])] (some (.ptr b 1 0 0)) := o_box b ho hx hb hsz hp h1
theorem oal (hT : TOk P T) {t : TypeId} {i : TyI} (b : Nat) (ho : o.op = .alloc t := by exact rfl) (hi : T t = some i := by exact rfl) (hb : h b = some .free := by exact rfl) (hz : i.zero.length = i.size := by exact rfl) (hp : 0 < i.size := by exact Nat.zero_lt_succ _) (h1 : i.zero.all AV.cell1 = true := by exact rfl) : OLoc P o e h [b] [(b, .row false i.size [i.zero])] (some (.ptr b 1 0 0)) := o_alloc hT b ho hi hb hz hp h1
theorem qil (hT : TOk P T) {t : TypeId} {x y : Operand} {ex : Bool} {es : List (List AV)} {k : IntKind} {m : Nat} {i j : TyI} {u : Nat} {cs : List AV} (hn : es[((m : Nat) : Int).toNat]? = some cs) (ho : o.op = .indexAddr t x y := by exact rfl) (hx : look e x = some (.lst ex es) := by exact rfl) (hy : look e y = some (.int k (m : Int)) := by exact rfl) (hi : T t = some i := by exact rfl) (hk : i.k = .slice u := by exact rfl) (hj : T u = some j := by exact rfl) (hsz : cs.length = j.size := by exact rfl) : QLoc P o e h [] (.loc cs) := q_index_lst hT ho hx hy hi hk hj (Int.natCast_nonneg _) hn hsz
theorem opu {f : FuncId} {fn : Func} {args : Array Operand} {tys : Array TypeId} {xs : List AV} (hf : P.funcs[f]? = some fn) (hc : APure P f xs (fun r' => r' = r)) (ho : o.op = .call { callee := .value (.func f), args := args, argTypes := tys } := by exact rfl) (hn : (fn.name == "runtime.NumGoroutine") = false := by kernel_rfl) (hb : fn.body.isSome = true := by exact rfl) (hx : lookAll e args.toList = some xs := by exact rfl) (hp : xs.all AV.isPure = true := by exact rfl) : OLoc P o e h [] [] (some r) := o_pure ho hf hn hb hx hp hc
theorem oct {f : FuncId} {fn : Func} {args : Array Operand} {tys : Array TypeId} {xs : List AV} {hc hw : AHeap} (hcall : ACall P f xs hc (fun r' h' => r' = r ∧ HSub hw h')) (L : List Nat) (W : List (Nat × AObj)) (ho : o.op = .call { callee := .value (.func f), args := args, argTypes := tys }) (hf : P.funcs[f]? = some fn) (hn : (fn.name == "runtime.NumGoroutine") = false) (hb : fn.body.isSome = true)
    (hx : lookAll e args.toList = some xs) (hxa : xs.all (AV.avoid (mem L)) = true) (hL : AllL L fun b => ∃ q, h b = some q ∧ q.avoid (mem L) = true) (hW : W.all (fun p => mem L p.1) = true) (hres' : hres h L = hc)
    (hk : AllL L fun b => ∃ q, hw b = some q ∧ hputs h W b = some q ∧ q.avoid (mem L) = true) (hra : r.avoid (mem L) = true) : OLoc P o e h L W (some r) := o_call L W ho hf hn hb hx hxa hL hW hres' hk hra hcall
end Go.Proofs.YtbbfelelocccmaaGreat.Sv

namespace Go.Proofs.YtbbfelelocccmaaGreat.Sv
open Go
section
variable {P : Program} {T : Nat → Option TyI} {o : Oper} {e : AEnv} {h : AHeap}
end
def slP (sz : Nat) (es : List (List AV)) : AObj := bif es.isEmpty then .free else .row false sz es
section
variable {P : Program} {T : Nat → Option TyI} {o : Oper} {e : AEnv} {h : AHeap}
theorem o_append0 (hT : TOk P T) {t t' : TypeId} {x y : Operand} {i i' j : TyI} {u u' : Nat} {es2 : List (List AV)} {q : AV} {R : List Nat} (b : Nat)
    (ho : o.op = .call { callee := .builtin .append, args := #[x, y], argTypes := #[t, t'] }) (hx : look e x = some (.lst true [])) (hy : look e y = some q) (hi : T t = some i) (hk : i.k = .slice u) (hj : T u = some j) (hi' : T t' = some i') (hk' : i'.k = .slice u')
    (hb : h b = some .free) (hz : j.zero.length = j.size) (hp : 0 < j.size) (hsrc : SrcOf h q R es2) (hu2 : ∀ cs ∈ es2, cs.length = j.size) (hne : 0 < es2.length)
    (hby : es2.length * j.bytes ≤ 140737488355328) (hml : es2.length ≤ maxLen) :
    OLoc P o e h (b :: R) [(b, .row false j.size es2)] (some (.ref b es2.length 0 es2.length)) := by
  refine OLoc.of_new hb (by simp) hp fun H ι a w s hs g1 g2 => ?_
  have hx' : look s.env x = some (.lst true []) := by rw [g1 x z33q, hx]
  have hy' : look s.env y = some q := by rw [g1 y z33q, hy]
  have hsrc' := hsrc.agree (h' := s.h) (fun c hc => g2 c (by simp [hc]))
  obtain ⟨info, d, e1, e2, e3, e4, e5, e6⟩ := tyOf_spec (hT _ _ hi)
  obtain ⟨infou, du, f1, f2, f3, f4, f5, f6⟩ := tyOf_spec (hT _ _ hj)
  obtain ⟨info', d', e1', e2', e3', e4', e5', e6'⟩ := tyOf_spec (hT _ _ hi')
  have hd := tk_slice (P := P) (d := d) (e3 ▸ hk)
  subst hd
  have hd' := tk_slice (P := P) (d := d') (e3' ▸ hk')
  subst hd'
  obtain ⟨z, hz1, hz2⟩ := zero_spec f6 hz hp
  have hzl : z.cells.size = j.size := by rw [← hz]; simpa using (allAV_rel (H := H) (ι := noLay) hz2).1.symm
  have hvx := look_rel hs hx'
  have hvy := look_rel hs hy'
  generalize hva : a.eval x = va at hvx
  generalize hvb : a.eval y = vb at hvy
  have hexec : ∀ (v : Value) (w' : World), (Builtin.append_ #[t, t'] o.type #[va, vb]).run P w = .ok v w' → (execOp a.eval o).run P w = .ok (.value v) w' := fun v w' hrun => by
    simp only [execOp, ho, resolve, invoke, builtin, Sem.run_bind, Sem.run_pure, Result.andThen_ok, List.map_toArray, List.map_cons, List.map_nil, hva, hvb, hrun]
  obtain ⟨news, hsrcw, hnews⟩ := src_of hs.heap hsrc' hvy e2' hp hu2 w rfl
  rw [← f4] at hsrcw
  have hnl : news.length = es2.length * j.size := by rw [hsrcw.newsLen, f4]
  have h63 : ((0 + es2.length : Nat) : Int) ≤ 9223372036854775807 := by
    have := hml; simp only [maxLen] at this; omega
  obtain ⟨base, hv, hold⟩ : ∃ (base : Option Addr), va = .slice base 0 0 ∧ (Builtin.firstCells infou.size 0 (.slice base 0 0)).run P w.drew = .ok ([] : List Value).toArray w.drew := by
    rcases hvx.lst_inv with ⟨_, ad, cap, rfl, h1, h2, h3, h4⟩ | ⟨hne, _⟩
    · have := h1 rfl
      subst this
      refine ⟨ad, rfl, ?_⟩
      cases ad <;> simp [Builtin.firstCells, loadCells, loadCellsFrom]
    · exact absurd rfl hne
  have hfit : Builtin.nextslicecap (0 + es2.length) 0 * infou.bytes ≤ 281474976710656 := growslice_fits (by omega) (by rw [f5, Nat.zero_add]; exact hby)
  have hrun := run_append_grow_src (P := P) w t t' o.type u infou z e2 f1 hz1 base 0 0 [] hold vb es2.length news hsrcw (by omega) h63 hfit
  have hge := grownCap_ge w (0 + es2.length) 0 u
  have hcm : grownCap w (0 + es2.length) 0 u ≤ maxLen := grownCap_le_maxLen w _ 0 u (by omega)
  generalize hcc : grownCap w (0 + es2.length) 0 u = nc at *
  generalize hC : (([] : List Value) ++ news).toArray ++ Builtin.zeroCells z.cells (nc - (0 + es2.length)) = C at *
  have hCs : C.size = nc * j.size := by
    rw [← hC, Array.size_append, size_zeroCells, hzl]
    simp only [List.size_toArray, List.nil_append, hnl, ← Nat.add_mul]
    congr 1; omega
  have hCg : ∀ k, k < news.length → C[k]? = news[k]? := fun k hk => by
    rw [← hC, Array.getElem?_append_left (by simp; omega)]
    simp
  refine ⟨_, C, u, w.drew, rfl, rfl, rfl, ?_, ⟨fun i cs h => hu2 cs (List.mem_of_getElem? h), fun i cs k y h1 h2 => ?_⟩, hexec _ _ (hv ▸ hrun), ?_⟩
  · rw [hCs]; exact Nat.mul_le_mul_right _ (by omega)
  · obtain ⟨v, k1, k2, k3⟩ := hnews i cs k y h1 h2
    exact ⟨v, by rw [hCg _ (List.getElem?_eq_some_iff.1 k1).1]; exact k1, k2, k3⟩
  · have := Rel.refL (H := H) (lput ι b ⟨w.heap.size, j.size, es2.length, C.size⟩) b es2.length 0 es2.length nc _ (lput_same _ _ _) rfl (by omega) (by omega) (by simp [hCs]) hcm
    simpa using this
theorem o_append1S (hT : TOk P T) {t t' : TypeId} {x y : Operand} {i i' j : TyI} {u u' : Nat} {es : List (List AV)} {x0 : List AV} {q : AV} {R : List Nat} {b sz : Nat}
    (ho : o.op = .call { callee := .builtin .append, args := #[x, y], argTypes := #[t, t'] }) (hx : look e x = some (slA b es)) (hy : look e y = some q) (hi : T t = some i) (hk : i.k = .slice u) (hj : T u = some j) (hi' : T t' = some i') (hk' : i'.k = .slice u')
    (hb : h b = some (slP sz es)) (hsz : sz = j.size) (hz : j.zero.length = j.size) (hp : 0 < j.size) (hsrc : SrcOf h q R [x0]) (hu2 : x0.length = sz)
    (hby : (es.length + 1) * j.bytes ≤ 140737488355328) (hml : es.length + 1 ≤ maxLen) :
    OLoc P o e h (b :: R) [(b, .row false sz (es ++ [x0]))] (some (slA b (es ++ [x0]))) := by
  subst hsz
  rw [slA_snoc]
  cases hes : es.isEmpty with
  | true =>
    have e1 : es = [] := List.isEmpty_iff.1 hes
    subst e1
    exact o_append0 hT b ho hx hy hi hk hj hi' hk' hb hz hp hsrc (by intro cs hc; simp at hc; rw [hc]; exact hu2) (by simp) (by simpa using hby) (by simpa using hml)
  | false =>
    have ex : slA b es = .ref b es.length 0 es.length := by simp [slA, hes, jAV]
    have eo : slP j.size es = .row false j.size es := by simp [slP, hes]
    rw [ex] at hx
    rw [eo] at hb
    exact o_append hT ho hx hy hi hk hj hi' hk' hb rfl rfl hz hp hsrc (by intro cs hc; simp at hc; rw [hc]; exact hu2) (by intro h; cases h) (m := 1) rfl hby hml
end
theorem Ghost.loosen {n : Nat} {e : AEnv} {h : AHeap} (b : Nat) {sz : Nat} {es : List (List AV)} (hb : h b = some (slO sz es)) : Ghost ⟨n, e, h⟩ ⟨n, e, hput h b (slP sz es)⟩ := by
  cases hes : es.isEmpty with
  | true =>
    have e1 : slO sz es = slP sz es := by simp [slO, slP, hes, jObj]
    refine .of_sub ⟨rfl, fun _ _ h => h, fun c x hx => ?_⟩
    have h1 : hput h b (slP sz es) c = some x := hx
    by_cases hc : c = b
    · subst hc; rw [hput_same] at h1; rw [← h1, ← e1]; exact hb
    · rwa [hput_ne _ _ hc] at h1
  | false =>
    have e1 : slO sz es = .row true sz es := by simp [slO, hes, jObj]
    have e2 : slP sz es = .row false sz es := by simp [slP, hes]
    rw [e1] at hb
    rw [e2]
    intro H ι a w hs
    obtain ⟨r, hl, ⟨r1, r2, r3, r4, r5, r6⟩, r7⟩ := hs.heap.obj b _ hb rfl
    have hlput : lput ι b r = ι := by
      funext c
      by_cases hc : c = b
      · subst hc; rw [lput_same, hl]
      · rw [lput_ne _ _ hc]
    have := hs.heap.upd (w' := w) (o0 := .row true sz es) (o' := .row false sz es) (r' := r) hb rfl (.inr ⟨r, hl, rfl, .inl rfl⟩) (fun hs' => .inr ⟨r, hl, rfl, hs', rfl⟩) (fun _ _ _ => rfl) (Nat.le_refl _) rfl rfl
      ⟨r1, r2, r3, r4, r5, fun hsol => by
        obtain ⟨c, TT, w1, w2, w3⟩ := r6 hsol
        refine ⟨c, TT, w1, w2, w3.1, ?_⟩
        rw [hlput]
        intro k ds q z hk hq
        obtain ⟨v, f1, f2, f3⟩ := w3.2 k ds q z hk hq
        exact ⟨v, f1, f2.mono (fun _ _ h => h) (LLe.none _), f3⟩⟩
    rw [hlput] at this
    exact ⟨H, ι, ⟨hs.n, hs.d, hs.env, this.1⟩, this.2⟩
theorem Ghost.endLast {n : Nat} {e : AEnv} {h : AHeap} (b b2 : Nat) {sz m : Nat} {es es2 : List (List AV)} (hb : h b = some (.row false 1 (es ++ [[.ref b2 m 0 m]]))) (hb2 : h b2 = some (.row true sz es2)) (hm : m = es2.length) (hne : b ≠ b2) (hpe : ∀ cs ∈ es, cs.all AV.isPure1 = true) :
    Ghost ⟨n, e, h⟩ ⟨n, e, hput (hput (hrm h b2) b (.row false 1 (es ++ [[.lst false es2]]))) b (slO 1 (es ++ [[.lst false es2]]))⟩ := by
  have h1 := Ghost.freezeCell (n := n) (e := e) b es.length 0 b2 hb (by rw [List.getElem?_append_right (Nat.le_refl _), Nat.sub_self]; rfl) rfl hb2 hm hne
  have e1 : (es ++ [[AV.ref b2 m 0 m]]).set es.length (([AV.ref b2 m 0 m] : List AV).set 0 (.lst false ((es2.drop 0).take m))) = es ++ [[.lst false es2]] := by
    rw [List.set_append, if_neg (by omega), Nat.sub_self, hm, List.drop_zero, List.take_length]; rfl
  rw [e1] at h1
  refine h1.trans ?_
  rw [slO_snoc]
  refine Ghost.plain b (hput_same _ _ _) fun cs hc => ?_
  simp only [List.mem_append, List.mem_singleton] at hc
  rcases hc with hc | rfl
  · exact hpe cs hc
  · rfl
def nth : List AObj → Nat → AObj
  | [], _ => .free
  | o :: _, 0 => o
  | _ :: L, n + 1 => nth L n
def LowAt (h : AHeap) (k : Nat → Bool) : Nat → List AObj → Prop
  | _, [] => True
  | i, o :: L => (h i = some o ∧ o.avoid k = true) ∧ LowAt h k (i + 1) L
theorem LowAt.get {h : AHeap} {k : Nat → Bool} : ∀ {L : List AObj} {i c : Nat}, LowAt h k i L → c < L.length → h (i + c) = some (nth L c) ∧ (nth L c).avoid k = true
  | [], _, _, _, hc => absurd hc (by simp)
  | o :: L, i, 0, hl, _ => hl.1
  | o :: L, i, c + 1, hl, hc => by
    have := LowAt.get (L := L) (i := i + 1) (c := c) hl.2 (by simpa using hc)
    rw [show i + (c + 1) = i + 1 + c by omega]
    exact this
section
variable {P : Program} {T : Nat → Option TyI} {o : Oper} {e : AEnv} {h : AHeap}
theorem q_field (hT : TOk P T) {t : TypeId} {x : Operand} {f : Nat} {cs : List AV} {r : AV} {i j : TyI} {fs : List (Nat × Nat)} {off u : Nat} (ho : o.op = .field t x f) (hx : look e x = some (.agg cs)) (hi : T t = some i) (hk : i.k = .struct fs)
    (hf : fs[f]? = some (off, u)) (hj : T u = some j) (hc : j.k.isCell = true) (hr : cs[off]? = some r) : QLoc P o e h [] r := by
  intro H ι a w s hs h1 h2
  have hx' : look s.env x = some (.agg cs) := by rw [h1 x (by rw [ho]; simp [Op.operands]), hx]
  obtain ⟨info, d, e1, e2, e3, e4, e5, e6⟩ := tyOf_spec (hT _ _ hi)
  obtain ⟨info', d', f1, f2, f3, f4, f5, f6⟩ := tyOf_spec (hT _ _ hj)
  obtain ⟨A, rfl, rfl, hz⟩ := tk_struct (P := P) (d := d) (e3 ▸ hk)
  rw [List.getElem?_map, Array.getElem?_toList] at hf
  cases ef : A[f]? with
  | none => rw [ef] at hf; cases hf
  | some g =>
    rw [ef] at hf
    simp only [Option.map_some, Option.some.injEq, Prod.mk.injEq] at hf
    obtain ⟨rfl, rfl⟩ := hf
    obtain ⟨us, hv, hl, hrel⟩ := (look_rel hs hx').agg_inv
    have hlt : g.offset < us.size := by rw [← hl]; exact (List.getElem?_eq_some_iff.1 hr).1
    have hagg : isAggD d' = false := by
      have := tk_cell (P := P) (d := d') (by rw [← f3]; exact hc)
      cases d' <;> first | rfl | exact absurd rfl (this.1 _) | exact absurd rfl (this.2 _ _)
    refine ⟨us[g.offset], hrel g.offset r _ hr (Array.getElem?_eq_getElem hlt), ?_⟩
    simp only [execOp, ho, Instr.field, hv, Sem.run_bind, Sem.run_pure, Result.andThen_ok, run_underlying' e2, ef, asAgg, part, run_isAgg f2, hagg, Bool.false_eq_true, if_false, Array.getElem?_eq_getElem hlt]
end
def ptsOf (h : AHeap) : AV → Option (List Nat × List AV)
  | .loc cs => some ([], cs)
  | .ptr b n i o => match h b with
    | some (.row p sz es) => match Nat.beq n es.length, es[i]? with
      | true, some cs => some ([b], cs.drop o)
      | _, _ => none
    | _ => none
  | _ => none
theorem ptsOf_spec {h : AHeap} {p : AV} {R : List Nat} {cs : List AV} (e : ptsOf h p = some (R, cs)) : PtsTo h p R cs := by
  unfold ptsOf at e
  split at e
  · simp only [Option.some.injEq, Prod.mk.injEq] at e
    obtain ⟨rfl, rfl⟩ := e
    exact .loc _
  · split at e
    · rename_i b n i o p sz es hb
      split at e
      · rename_i cs h1 h2
        simp only [Option.some.injEq, Prod.mk.injEq] at e
        obtain ⟨rfl, rfl⟩ := e
        exact .ptr _ _ _ _ _ _ _ _ hb (Nat.eq_of_beq_eq_true h1) h2
      · cases e
    · cases e
  · cases e
def qEv (T : Nat → Option TyI) (o : Op) (e : AEnv) (h : AHeap) : Option (List Nat × AV) :=
  match o with
  | .move x => match look e x with
    | some p => some ([], p)
    | none => none
  | .assign x => match look e x with
    | some p => some ([], p)
    | none => none
  | .load t x => match look e x, T t with
    | some p, some i => match ptsOf h p with
      | some (R, cs) => match loadAV i cs with
        | some r => some (R, r)
        | none => none
      | none => none
    | _, _ => none
  | .fieldAddr t x f => match look e x, T t with
    | some p, some i => match i.k with
      | .struct fs => match fs[f]? with
        | some (off, u) => match moveAV p off with
          | some r => some ([], r)
          | none => none
        | none => none
      | _ => none
    | _, _ => none
  | .binOp op t x y t' => match look e x, look e y with
    | some p, some q => match evalBin op p q with
      | some r => some ([], r)
      | none => none
    | _, _ => none
  | .unOp .not t x => match look e x with
    | some (.bool b) => some ([], .bool (!b))
    | _ => none
  | .pick c x y => match look e c with
    | some (.bool true) => match look e x with
      | some p => some ([], p)
      | none => none
    | some (.bool false) => match look e y with
      | some p => some ([], p)
      | none => none
    | _ => none
  | .extract x k => match look e x with
    | some (.tup vs) => match vs[k]? with
      | some r => some ([], r)
      | none => none
    | _ => none
  | .nilCheck x => match look e x with
    | some p => match (match p with | .loc _ | .ptr .. => true | _ => false) with
      | true => some ([], p)
      | false => none
    | none => none
  | .field t x f => match look e x, T t with
    | some (.agg cs), some i => match i.k with
      | .struct fs => match fs[f]? with
        | some (off, u) => match T u with
          | some j => match j.k.isCell, cs[off]? with
            | true, some r => some ([], r)
            | _, _ => none
          | none => none
        | none => none
      | _ => none
    | _, _ => none
  | .convert t u x => match look e x, T t, T u with
    | some (.int k' n), some i, some j => match j.k with
      | .int k => some ([], .int k (k.wrap n))
      | _ => none
    | _, _, _ => none
  | .call ⟨.builtin .len, args, tys⟩ => match args.toList, tys.toList with
    | [x], [t] => match look e x, T t with
      | some p, some i => match (match p with | .str _ => (match i.k with | .string => true | _ => false) | _ => (match i.k with | .slice _ => true | _ => false)), lenAV p with
        | true, some n => some ([], .int .i64 n)
        | _, _ => none
      | _, _ => none
    | _, _ => none
  | _ => none
theorem arr_one {α : Type} {a : Array α} {x : α} (h : a.toList = [x]) : a = #[x] := Array.ext' h
section
variable {P : Program} {T : Nat → Option TyI} {o : Oper} {e : AEnv} {h : AHeap} {R : List Nat} {r : AV}
theorem qEv_spec (hT : TOk P T) (hq : qEv T o.op e h = some (R, r)) : QLoc P o e h R r := by
  unfold qEv at hq
  split at hq
  · rename_i x ho
    split at hq
    · rename_i p hp
      simp only [Option.some.injEq, Prod.mk.injEq] at hq
      obtain ⟨rfl, rfl⟩ := hq
      exact q_move (.inl ho) hp
    · cases hq
  · rename_i x ho
    split at hq
    · rename_i p hp
      simp only [Option.some.injEq, Prod.mk.injEq] at hq
      obtain ⟨rfl, rfl⟩ := hq
      exact q_move (.inr ho) hp
    · cases hq
  · rename_i t x ho
    split at hq
    · rename_i p i hp hi
      split at hq
      · rename_i R' cs hc
        split at hq
        · rename_i r' hr
          simp only [Option.some.injEq, Prod.mk.injEq] at hq
          obtain ⟨rfl, rfl⟩ := hq
          exact q_load hT ho hp hi (ptsOf_spec hc) hr
        · cases hq
      · cases hq
    · cases hq
  · rename_i t x f ho
    split at hq
    · rename_i p i hp hi
      split at hq
      · rename_i fs hk
        split at hq
        · rename_i off u hf
          split at hq
          · rename_i r' hr
            simp only [Option.some.injEq, Prod.mk.injEq] at hq
            obtain ⟨rfl, rfl⟩ := hq
            exact q_fieldAddr hT ho hp hi hk hf hr
          · cases hq
        · cases hq
      · cases hq
    · cases hq
  · rename_i op t x y t' ho
    split at hq
    · rename_i p q hp hq'
      split at hq
      · rename_i r' hr
        simp only [Option.some.injEq, Prod.mk.injEq] at hq
        obtain ⟨rfl, rfl⟩ := hq
        exact q_bin ho hp hq' hr
      · cases hq
    · cases hq
  · rename_i t x ho
    split at hq
    · rename_i b hp
      simp only [Option.some.injEq, Prod.mk.injEq] at hq
      obtain ⟨rfl, rfl⟩ := hq
      exact q_not ho hp
    · cases hq
  · rename_i c x y ho
    split at hq
    · rename_i hc
      split at hq
      · rename_i p hp
        simp only [Option.some.injEq, Prod.mk.injEq] at hq
        obtain ⟨rfl, rfl⟩ := hq
        exact q_pick_true true ho hc rfl hp
      · cases hq
    · rename_i hc
      split at hq
      · rename_i p hp
        simp only [Option.some.injEq, Prod.mk.injEq] at hq
        obtain ⟨rfl, rfl⟩ := hq
        exact q_pick_false false ho hc rfl hp
      · cases hq
    · cases hq
  · rename_i x k ho
    split at hq
    · rename_i vs hp
      split at hq
      · rename_i r' hr
        simp only [Option.some.injEq, Prod.mk.injEq] at hq
        obtain ⟨rfl, rfl⟩ := hq
        exact q_extract ho hp hr
      · cases hq
    · cases hq
  · rename_i x ho
    split at hq
    · rename_i p hp
      split at hq
      · rename_i hc
        simp only [Option.some.injEq, Prod.mk.injEq] at hq
        obtain ⟨rfl, rfl⟩ := hq
        exact q_nilCheck ho hp (by cases p <;> first | rfl | cases hc)
      · cases hq
    · cases hq
  · rename_i t x f ho
    split at hq
    · rename_i cs i hp hi
      split at hq
      · rename_i fs hk
        split at hq
        · rename_i off u hf
          split at hq
          · rename_i j hj
            split at hq
            · rename_i r' hc hr
              simp only [Option.some.injEq, Prod.mk.injEq] at hq
              obtain ⟨rfl, rfl⟩ := hq
              exact q_field hT ho hp hi hk hf hj hc hr
            · cases hq
          · cases hq
        · cases hq
      · cases hq
    · cases hq
  · rename_i t u x ho
    split at hq
    · rename_i k' n i j hp hi hj
      split at hq
      · rename_i k hk
        simp only [Option.some.injEq, Prod.mk.injEq] at hq
        obtain ⟨rfl, rfl⟩ := hq
        exact q_convInt hT ho hp hi hj hk
      · cases hq
    · cases hq
  · rename_i args tys ho
    split at hq
    · rename_i x t ha ht
      split at hq
      · rename_i p i hp hi
        split at hq
        · rename_i n hk hn
          simp only [Option.some.injEq, Prod.mk.injEq] at hq
          obtain ⟨rfl, rfl⟩ := hq
          exact q_len hT (ho.trans (by rw [arr_one ha, arr_one ht])) hp hi (by cases p <;> exact hk) hn
        · cases hq
      · cases hq
    · cases hq
  · cases hq
end
def qRun (T : Nat → Option TyI) (ops : Array Oper) (n : Nat) : Nat → List Oper → AEnv → AHeap → Option (List Oper × AEnv)
  | 0, l, e, _ => some (l, e)
  | k + 1, o :: l, e, h => match o.dst with
    | some d => match Nat.blt d n, guardIs ops o e with
      | true, some true => match qEv T o.op e h with
        | some (_, r) => qRun T ops n k l (eput e d r) h
        | none => none
      | true, some false => qRun T ops n k l (eput e d (.tup [])) h
      | _, _ => none
    | none => none
  | _ + 1, [], _, _ => none
section
variable {P : Program} {T : Nat → Option TyI} {ops : Array Oper} {n : Nat} {h : AHeap} {K : AState → Prop}
theorem aQ (hT : TOk P T) : ∀ (k : Nat) {l l' : List Oper} {e e' : AEnv}, qRun T ops n k l e h = some (l', e') → AOps P ops l' ⟨n, e', h⟩ K → AOps P ops l ⟨n, e, h⟩ K
  | 0, l, l', e, e', hq, hr => by
    simp only [qRun, Option.some.injEq, Prod.mk.injEq] at hq
    obtain ⟨rfl, rfl⟩ := hq
    exact hr
  | k + 1, [], _, _, _, hq, _ => by cases hq
  | k + 1, o :: l, l', e, e', hq, hr => by
    unfold qRun at hq
    split at hq
    · rename_i d hd
      split at hq
      · rename_i hb hg
        split at hq
        · rename_i R r hv
          exact AOps.s d hd hb hg (qEv_spec hT hv) (aQ hT k hq hr)
        · cases hq
      · rename_i hb hg
        exact AOps.k d hd hb hg (aQ hT k hq hr)
      · cases hq
    · cases hq
end
def qRunD (T : Nat → Option TyI) (ops : Array Oper) (n : Nat) : Nat → List Oper → AEnv → AHeap → List (List Nat × List Nat) → Option (List Oper × AEnv × List (List Nat × List Nat))
  | 0, l, e, _, acc => some (l, e, acc)
  | k + 1, o :: l, e, h, acc => match o.dst with
    | some d => match Nat.blt d n, guardIs ops o e with
      | true, some true => match qEv T o.op e h with
        | some (R, r) => qRunD T ops n k l (eput e d r) h (acc ++ [(R, [])])
        | none => none
      | true, some false => qRunD T ops n k l (eput e d (.tup [])) h (acc ++ [([], [])])
      | _, _ => none
    | none => none
  | _ + 1, [], _, _, _ => none
section
variable {P : Program} {T : Nat → Option TyI} {ops : Array Oper} {n : Nat} {h : AHeap} {K : AState → Prop}
theorem dQ (hT : TOk P T) : ∀ (k : Nat) {l l' : List Oper} {e e' : AEnv} {acc acc' : List (List Nat × List Nat)}, qRunD T ops n k l e h acc = some (l', e', acc') → DOps P ops n l' e' h acc' K → DOps P ops n l e h acc K
  | 0, l, l', e, e', acc, acc', hq, hr => by
    simp only [qRunD, Option.some.injEq, Prod.mk.injEq] at hq
    obtain ⟨rfl, rfl, rfl⟩ := hq
    exact hr
  | k + 1, [], _, _, _, _, _, hq, _ => by cases hq
  | k + 1, o :: l, l', e, e', acc, acc', hq, hr => by
    unfold qRunD at hq
    split at hq
    · rename_i d hd
      split at hq
      · rename_i hb hg
        split at hq
        · rename_i R r hv
          exact DOps.s d hd hb hg (qEv_spec hT hv) (dQ hT k hq hr)
        · cases hq
      · rename_i hb hg
        exact DOps.u d hd hb hg (dQ hT k hq hr)
      · cases hq
    · cases hq
end
section
variable {P : Program} {T : Nat → Option TyI} {o : Oper} {e : AEnv} {h : AHeap}
theorem o_appendN (hT : TOk P T) {t t' : TypeId} {x y : Operand} {i i' j : TyI} {u u' : Nat} {es2 : List (List AV)} {q : AV} {R : List Nat} (b : Nat)
    (ho : o.op = .call { callee := .builtin .append, args := #[x, y], argTypes := #[t, t'] }) (hx : look e x = some .nil) (hy : look e y = some q) (hi : T t = some i) (hk : i.k = .slice u) (hj : T u = some j) (hi' : T t' = some i') (hk' : i'.k = .slice u')
    (hb : h b = some .free) (hz : j.zero.length = j.size) (hp : 0 < j.size) (hsrc : SrcOf h q R es2) (hu2 : ∀ cs ∈ es2, cs.length = j.size) (hne : 0 < es2.length)
    (hby : es2.length * j.bytes ≤ 140737488355328) (hml : es2.length ≤ maxLen) :
    OLoc P o e h (b :: R) [(b, .row false j.size es2)] (some (.ref b es2.length 0 es2.length)) := by
  refine OLoc.of_new hb (by simp) hp fun H ι a w s hs g1 g2 => ?_
  have hx' : look s.env x = some .nil := by rw [g1 x z33q, hx]
  have hy' : look s.env y = some q := by rw [g1 y z33q, hy]
  have hsrc' := hsrc.agree (h' := s.h) (fun c hc => g2 c (by simp [hc]))
  obtain ⟨info, d, e1, e2, e3, e4, e5, e6⟩ := tyOf_spec (hT _ _ hi)
  obtain ⟨infou, du, f1, f2, f3, f4, f5, f6⟩ := tyOf_spec (hT _ _ hj)
  obtain ⟨info', d', e1', e2', e3', e4', e5', e6'⟩ := tyOf_spec (hT _ _ hi')
  have hd := tk_slice (P := P) (d := d) (e3 ▸ hk)
  subst hd
  have hd' := tk_slice (P := P) (d := d') (e3' ▸ hk')
  subst hd'
  obtain ⟨z, hz1, hz2⟩ := zero_spec f6 hz hp
  have hzl : z.cells.size = j.size := by rw [← hz]; simpa using (allAV_rel (H := H) (ι := noLay) hz2).1.symm
  have hvx := look_rel hs hx'
  have hvy := look_rel hs hy'
  generalize hva : a.eval x = va at hvx
  generalize hvb : a.eval y = vb at hvy
  have hexec : ∀ (v : Value) (w' : World), (Builtin.append_ #[t, t'] o.type #[va, vb]).run P w = .ok v w' → (execOp a.eval o).run P w = .ok (.value v) w' := fun v w' hrun => by
    simp only [execOp, ho, resolve, invoke, builtin, Sem.run_bind, Sem.run_pure, Result.andThen_ok, List.map_toArray, List.map_cons, List.map_nil, hva, hvb, hrun]
  obtain ⟨news, hsrcw, hnews⟩ := src_of hs.heap hsrc' hvy e2' hp hu2 w rfl
  rw [← f4] at hsrcw
  have hnl : news.length = es2.length * j.size := by rw [hsrcw.newsLen, f4]
  have h63 : ((0 + es2.length : Nat) : Int) ≤ 9223372036854775807 := by
    have := hml; simp only [maxLen] at this; omega
  obtain ⟨base, hv, hold⟩ : ∃ (base : Option Addr), va = .slice base 0 0 ∧ (Builtin.firstCells infou.size 0 (.slice base 0 0)).run P w.drew = .ok ([] : List Value).toArray w.drew := by
    have := hvx.nil_inv
    subst this
    exact ⟨none, rfl, by simp [Builtin.firstCells, loadCells, loadCellsFrom]⟩
  have hfit : Builtin.nextslicecap (0 + es2.length) 0 * infou.bytes ≤ 281474976710656 := growslice_fits (by omega) (by rw [f5, Nat.zero_add]; exact hby)
  have hrun := run_append_grow_src (P := P) w t t' o.type u infou z e2 f1 hz1 base 0 0 [] hold vb es2.length news hsrcw (by omega) h63 hfit
  have hge := grownCap_ge w (0 + es2.length) 0 u
  have hcm : grownCap w (0 + es2.length) 0 u ≤ maxLen := grownCap_le_maxLen w _ 0 u (by omega)
  generalize hcc : grownCap w (0 + es2.length) 0 u = nc at *
  generalize hC : (([] : List Value) ++ news).toArray ++ Builtin.zeroCells z.cells (nc - (0 + es2.length)) = C at *
  have hCs : C.size = nc * j.size := by
    rw [← hC, Array.size_append, size_zeroCells, hzl]
    simp only [List.size_toArray, List.nil_append, hnl, ← Nat.add_mul]
    congr 1; omega
  have hCg : ∀ k, k < news.length → C[k]? = news[k]? := fun k hk => by
    rw [← hC, Array.getElem?_append_left (by simp; omega)]
    simp
  refine ⟨_, C, u, w.drew, rfl, rfl, rfl, ?_, ⟨fun i cs h => hu2 cs (List.mem_of_getElem? h), fun i cs k y h1 h2 => ?_⟩, hexec _ _ (hv ▸ hrun), ?_⟩
  · rw [hCs]; exact Nat.mul_le_mul_right _ (by omega)
  · obtain ⟨v, k1, k2, k3⟩ := hnews i cs k y h1 h2
    exact ⟨v, by rw [hCg _ (List.getElem?_eq_some_iff.1 k1).1]; exact k1, k2, k3⟩
  · have := Rel.refL (H := H) (lput ι b ⟨w.heap.size, j.size, es2.length, C.size⟩) b es2.length 0 es2.length nc _ (lput_same _ _ _) rfl (by omega) (by omega) (by simp [hCs]) hcm
    simpa using this
end
def elemTy (T : Nat → Option TyI) (t : Nat) : Option TyI := match T t with
  | some i => match i.k with
    | .slice u => T u
    | _ => none
  | none => none
theorem elemTy_spec {T : Nat → Option TyI} {t : Nat} {j : TyI} (h : elemTy T t = some j) : ∃ i u, T t = some i ∧ i.k = .slice u ∧ T u = some j := by
  unfold elemTy at h
  split at h
  · rename_i i hi
    split at h
    · rename_i u hk
      exact ⟨i, u, hi, hk, h⟩
    · cases h
  · cases h
def isFree (h : AHeap) (b : Nat) : Bool := match h b with
  | some .free => true
  | _ => false
theorem isFree_spec {h : AHeap} {b : Nat} (e : isFree h b = true) : h b = some .free := by
  unfold isFree at e
  split at e
  · assumption
  · cases e
def zeroOk (i : TyI) : Bool := Nat.beq i.zero.length i.size && (Nat.blt 0 i.size && i.zero.all AV.cell1)
theorem zeroOk_spec {i : TyI} (h : zeroOk i = true) : i.zero.length = i.size ∧ 0 < i.size ∧ i.zero.all AV.cell1 = true := by
  unfold zeroOk at h
  rw [Bool.and_eq_true, Bool.and_eq_true] at h
  exact ⟨Nat.eq_of_beq_eq_true h.1, by have := h.2.1; simpa [Nat.blt_eq] using this, h.2.2⟩
def qEv2 (P : Program) (T : Nat → Option TyI) (o : Op) (e : AEnv) (h : AHeap) : Option (List Nat × AV) :=
  match o with
  | .indexAddr t x y => match look e x, look e y with
    | some (.lst ex es), some (.int k n) => match elemTy T t, decide (0 ≤ n), es[n.toNat]? with
      | some j, true, some cs => match Nat.beq cs.length j.size with
        | true => some ([], .loc cs)
        | false => none
      | _, _, _ => none
    | some (.ref b m off len), some (.int k n) => match elemTy T t, h b, decide (0 ≤ n), decide (n < len) with
      | some j, some (.row p sz es), true, true => match Nat.beq m es.length, Nat.beq sz j.size with
        | true, true => some ([b], .ptr b m (off + n.toNat) 0)
        | _, _ => none
      | _, _, _, _ => none
    | some p, some (.int k n) => match T t with
      | some i => match i.k with
        | .array len u => match T u, decide (0 ≤ n), decide (n < len) with
          | some j, true, true => match moveAV p (n.toNat * j.size) with
            | some r => some ([], r)
            | none => none
          | _, _, _ => none
        | _ => none
      | none => none
    | _, _ => none
  | .build t parts => match lookParts e parts.toList, T t with
    | some ps, some i => match i.k with
      | .struct fs => match zeroOk i, partsFit T fs ps, allKnown T fs, partCells fs ps i.zero with
        | true, true, true, some r => some ([], .agg r)
        | _, _, _, _ => none
      | _ => none
    | _, _ => none
  | .makeFunc f first captured => match lookAll e first.toList, lookAll e captured.toList with
    | some xs, some cs => some ([], .fn f xs cs)
    | _, _ => none
  | .makeInterface t x => match look e x, T t with
    | some y, some i => match y.whole, i.k with
      | some u, .struct _ => some ([], .val (.iface t u))
      | _, _ => none
    | _, _ => none
  | .unOp .neg t x => match look e x with
    | some (.int k n) => some ([], .int k (k.wrap (0 - n)))
    | _ => none
  | .slice t x none (some y) none => match look e x, look e y with
    | some (.ref b n 0 len), some (.int k z) => match elemTy T t, h b, decide (0 ≤ z), decide (z.toNat ≤ len) with
      | some j, some (.row p sz es), true, true => match Nat.beq n es.length with
        | true => some ([b], .ref b n 0 z.toNat)
        | false => none
      | _, _, _, _ => none
    | some (.lst ex es), some (.int k z) => match elemTy T t, decide (0 ≤ z), decide (z.toNat ≤ es.length) with
      | some j, true, true => match es.all (fun cs => Nat.beq cs.length j.size) with
        | true => some ([], .lst (ex && Nat.beq z.toNat es.length) ((es.take z.toNat).drop 0))
        | false => none
      | _, _, _ => none
    | _, _ => none
  | _ => none
section
variable {P : Program} {T : Nat → Option TyI} {o : Oper} {e : AEnv} {h : AHeap} {R : List Nat} {r : AV}
theorem qEv2_spec (hT : TOk P T) (hq : qEv2 P T o.op e h = some (R, r)) : QLoc P o e h R r := by
  unfold qEv2 at hq
  split at hq
  · rename_i t x y ho
    split at hq
    · rename_i ex es k n hx hy
      split at hq
      · rename_i j cs hj h0 hn
        split at hq
        · rename_i hs
          simp only [Option.some.injEq, Prod.mk.injEq] at hq
          obtain ⟨rfl, rfl⟩ := hq
          obtain ⟨i, u, a1, a2, a3⟩ := elemTy_spec hj
          exact q_index_lst hT ho hx hy a1 a2 a3 (of_decide_eq_true h0) hn (Nat.eq_of_beq_eq_true hs)
        · cases hq
      · cases hq
    · rename_i b m off len k n hx hy
      split at hq
      · rename_i j p sz es hj hb h0 hn
        split at hq
        · rename_i h1 h2
          simp only [Option.some.injEq, Prod.mk.injEq] at hq
          obtain ⟨rfl, rfl⟩ := hq
          obtain ⟨i, u, a1, a2, a3⟩ := elemTy_spec hj
          exact q_index_ref hT ho hx hy a1 a2 a3 hb (Nat.eq_of_beq_eq_true h1) (Nat.eq_of_beq_eq_true h2) (of_decide_eq_true h0) (of_decide_eq_true hn)
        · cases hq
      · cases hq
    · rename_i p k n _ _ hx hy
      split at hq
      · rename_i i hi
        split at hq
        · rename_i len u hk
          split at hq
          · rename_i j hj h0 hn
            split at hq
            · rename_i r' hr
              simp only [Option.some.injEq, Prod.mk.injEq] at hq
              obtain ⟨rfl, rfl⟩ := hq
              exact q_index_arr hT ho hx hy hi hk hj (of_decide_eq_true h0) (of_decide_eq_true hn) hr
            · cases hq
          · cases hq
        · cases hq
      · cases hq
    · cases hq
  · rename_i t parts ho
    split at hq
    · rename_i ps i hp hi
      split at hq
      · rename_i fs hk
        split at hq
        · rename_i r' hz hf ha hr
          simp only [Option.some.injEq, Prod.mk.injEq] at hq
          obtain ⟨rfl, rfl⟩ := hq
          obtain ⟨z1, z2, z3⟩ := zeroOk_spec hz
          exact q_build hT ho hp hi hk z1 z2 hf ha hr
        · cases hq
      · cases hq
    · cases hq
  · rename_i f first captured ho
    split at hq
    · rename_i xs cs hx hc
      simp only [Option.some.injEq, Prod.mk.injEq] at hq
      obtain ⟨rfl, rfl⟩ := hq
      exact q_makeFunc ho hx hc
    · cases hq
  · rename_i t x ho
    split at hq
    · rename_i y i hx hi
      split at hq
      · rename_i u fs hy hk
        simp only [Option.some.injEq, Prod.mk.injEq] at hq
        obtain ⟨rfl, rfl⟩ := hq
        exact q_iface hT ho hx hy hi (by rw [hk]; intro h; cases h)
      · cases hq
    · cases hq
  · rename_i t x ho
    split at hq
    · rename_i k n hx
      simp only [Option.some.injEq, Prod.mk.injEq] at hq
      obtain ⟨rfl, rfl⟩ := hq
      exact q_neg ho hx
    · cases hq
  · rename_i t x y ho
    split at hq
    · rename_i b n len k z hx hy
      split at hq
      · rename_i j p sz es hj hb h0 hz
        split at hq
        · rename_i h1
          simp only [Option.some.injEq, Prod.mk.injEq] at hq
          obtain ⟨rfl, rfl⟩ := hq
          obtain ⟨i, u, a1, a2, a3⟩ := elemTy_spec hj
          exact q_slice_ref hT ho hx hy a1 a2 a3 hb (Nat.eq_of_beq_eq_true h1) (by have := of_decide_eq_true h0; omega) (of_decide_eq_true hz)
        · cases hq
      · cases hq
    · rename_i ex es k z hx hy
      split at hq
      · rename_i j hj h0 hz
        split at hq
        · rename_i h1
          simp only [Option.some.injEq, Prod.mk.injEq] at hq
          obtain ⟨rfl, rfl⟩ := hq
          obtain ⟨i, u, a1, a2, a3⟩ := elemTy_spec hj
          exact q_slice_lst hT 0 z.toNat ho hx a1 a2 a3 rfl ⟨k, by rw [hy, Int.toNat_of_nonneg (of_decide_eq_true h0)]⟩ (Nat.zero_le _) (of_decide_eq_true hz) (fun cs hc => Nat.eq_of_beq_eq_true (List.all_eq_true.1 h1 cs hc))
        · cases hq
      · cases hq
    · cases hq
  · cases hq
end
def OCallR (P : Program) (o : Oper) (e : AEnv) (h : AHeap) (R : AV → AHeap → Prop) : Prop :=
  ∀ (H : Know) (ι : Lay) (a : Act) (w : World) (n : Nat) (Q : Exit → Act → World → Prop), Sim H ι ⟨n, e, h⟩ a w →
    o.wp P a w (fun a' w' => ∃ v r h' H' ι', R r h' ∧ a' = a.put o.dst v ∧ Rel H' ι' r v ∧ HeapRel H' ι' h' w' ∧ Step H ι h w H' ι' h' w') Q
section
variable {P : Program} {o : Oper} {e : AEnv} {h : AHeap} {R : AV → AHeap → Prop}
theorem ocall_of {f : FuncId} {xs : List AV} {us : Act → Array Value} (hus : ∀ H ι a w n, Sim H ι ⟨n, e, h⟩ a w → RelAll H ι xs (us a)) (hex : ∀ H ι a w n, Sim H ι ⟨n, e, h⟩ a w → (execOp a.eval o).run P w = .ok (.enter f (us a)) w)
    (hcall : ACall P f xs h R) : OCallR P o e h R := by
  intro H ι a w n Q hs
  have hcalls := hcall H ι w _ (hus H ι a w n hs) hs.heap
  unfold Oper.wp
  rw [hex H ι a w n hs]
  refine hcalls.mono fun en w' hh => ?_
  obtain ⟨v, r', h', H', ι', rfl, hR, k1, k2, k3⟩ := hh
  exact ⟨v, r', h', H', ι', hR, rfl, k1, k2, k3⟩
theorem o_inF {f : FuncId} {fn : Func} {x : Operand} {args : Array Operand} {tys : Array TypeId} {fs xs cs : List AV} (ho : o.op = .call { callee := .value x, args := args, argTypes := tys }) (hfn : look e x = some (.fn (.func f) fs cs)) (hf : P.funcs[f]? = some fn) (hnm : (fn.name == "runtime.NumGoroutine") = false) (hb : fn.body.isSome = true)
    (hx : lookAll e args.toList = some xs) (hcall : ACall P f (fs ++ xs ++ cs) h R) : OCallR P o e h R := by
  intro H ι a w n Q hs
  have hvf := look_rel hs hfn
  obtain ⟨us, vs, hve, k1, k2, k3, k4⟩ := hvf.fn_inv
  have hraa := relAll_append (relAll_append ⟨k1, k3⟩ (relAll_map hs hx)) ⟨k2, k4⟩
  have hcalls := hcall H ι w _ hraa hs.heap
  have hexec : (execOp a.eval o).run P w = .ok (.enter f (us ++ args.map a.eval ++ vs)) w := by
    simp only [execOp, ho, resolve, hve, Deferred.ofValue, invoke, Sem.run_bind, Sem.run_pure, Result.andThen_ok, run_callFunc hf hnm hb]
  unfold Oper.wp
  rw [hexec]
  refine hcalls.mono fun en w' hh => ?_
  obtain ⟨v, r', h', H', ι', rfl, hR, k1, k2, k3⟩ := hh
  exact ⟨v, r', h', H', ι', hR, rfl, k1, k2, k3⟩
theorem o_inV {f : FuncId} {fn : Func} {x : Operand} {args : Array Operand} {tys : Array TypeId} {xs : List AV} (ho : o.op = .call { callee := .value x, args := args, argTypes := tys }) (hfn : look e x = some (.val (.func (.func f) #[] #[]))) (hf : P.funcs[f]? = some fn) (hnm : (fn.name == "runtime.NumGoroutine") = false) (hb : fn.body.isSome = true)
    (hx : lookAll e args.toList = some xs) (hcall : ACall P f xs h R) : OCallR P o e h R :=
  ocall_of (us := fun a => args.map a.eval) (fun H ι a w n hs => relAll_map hs hx) (fun H ι a w n hs => by
    have hye := ((look_rel hs hfn).val_inv).1
    simp only [execOp, ho, resolve, hye, Deferred.ofValue, invoke, Sem.run_bind, Sem.run_pure, Result.andThen_ok, Array.append_empty, Array.empty_append, run_callFunc hf hnm hb]) hcall
theorem o_inM {f : FuncId} {fn : Func} {recv : Operand} {name : String} {args : Array Operand} {tys : Array TypeId} {t : TypeId} {v : Value} {x0 : AV} {xs : List AV} (ho : o.op = .call { callee := .invoke recv name, args := args, argTypes := tys })
    (hr : look e recv = some (.val (.iface t v))) (hm : ∀ w, (method (P.types.size + Made.depth) t v name).run P w = .ok (f, v) w) (hv : ∀ H, Rel H noLay x0 v)
    (hf : P.funcs[f]? = some fn) (hnm : (fn.name == "runtime.NumGoroutine") = false) (hb : fn.body.isSome = true)
    (hx : lookAll e args.toList = some xs) (hcall : ACall P f (x0 :: xs) h R) : OCallR P o e h R :=
  ocall_of (us := fun a => #[v] ++ args.map a.eval) (fun H ι a w n hs => by
    have h1 : RelAll H ι [x0] #[v] := ⟨rfl, fun j x u h1 h2 => by
      cases j with
      | zero => simp at h1 h2; subst h1; subst h2; exact (hv H).mono (KLe.refl _) (LLe.none _)
      | succ j => simp at h1⟩
    exact relAll_append h1 (relAll_map hs hx)) (fun H ι a w n hs => by
    have hre := ((look_rel hs hr).val_inv).1
    have h0 : (#[Value.iface t v] ++ args.map a.eval)[0]? = some (.iface t v) := by
      rw [Array.getElem?_append_left (by simp)]; rfl
    have hex : (#[Value.iface t v] ++ args.map a.eval).extract 1 (#[Value.iface t v] ++ args.map a.eval).size = args.map a.eval := by
      apply Array.ext'
      simp only [Array.toList_extract, Array.toList_append, Array.toList_map, Array.size_append, Array.size_map, List.extract_eq_take_drop]
      exact List.take_of_length_le (by simp)
    simp only [execOp, ho, resolve, hre, invoke, Sem.run_bind, Sem.run_pure, Result.andThen_ok, h0, hex, callMethod, run_program, hm w, run_callFunc hf hnm hb]) hcall
theorem wpList_post {ops : Array Oper} {K : AState → Prop} {H H' : Know} {ι ι' : Lay} {h hn : AHeap} {w w' : World} (hpost : ∀ e a2 w2, Post H' ι' hn w' (Then K fun _ _ => False) e a2 w2 → Post H ι h w (Then K fun _ _ => False) e a2 w2) :
    ∀ (l : List Oper) (a1 : Act) (w1 : World), wpList P ops (Post H' ι' hn w' (Then K fun _ _ => False)) l a1 w1 → wpList P ops (Post H ι h w (Then K fun _ _ => False)) l a1 w1 := by
  intro l
  induction l with
  | nil => exact fun a1 w1 hp => hpost _ _ _ hp
  | cons o' l ih =>
    intro a1 w1 hp
    unfold wpList at hp ⊢
    by_cases hw : Region.wanted o' (yielded ops a1.tmps) = true
    · rw [if_pos hw] at hp ⊢
      rcases hp with hp | ⟨hp1, a2, w2, hp2⟩
      · refine .inl ?_
        have hp' := Oper.wp_mono (fun a2 w2 => ih a2 w2) hp
        clear hp
        unfold Oper.wp at hp' ⊢
        generalize (execOp a1.eval o').run P w1 = res at hp' ⊢
        cases res with
        | ok n w3 =>
          cases n <;> simp only [Oper.upon] at hp' ⊢ <;> first
            | exact hp'
            | exact Calls.mono hp' (fun e w4 he => by cases e <;> first | exact he | exact hpost _ _ _ he | (obtain ⟨a3, w5, hp3⟩ := he; exact ⟨a3, w5, hpost _ _ _ hp3⟩))
        | halt x w3 => cases x <;> simp only [Oper.upon] at hp' ⊢ <;> first | exact hpost _ _ _ hp' | exact hp'
      · exact .inr ⟨hp1, a2, w2, hpost _ _ _ hp2⟩
    · rw [if_neg hw] at hp ⊢
      exact ih _ _ hp
theorem AOps.inn {ops : Array Oper} {rest : List Oper} {n : Nat} {K : AState → Prop} (d : Nat) (hd : o.dst = some d) (hb : Nat.blt d n = true) (hg : guardIs ops o e = some true)
    (ho : OCallR P o e h (fun r hn => AOps P ops rest ⟨n, eput e d r, hn⟩ K)) : AOps P ops (o :: rest) ⟨n, e, h⟩ K := by
  intro H ι a w hs
  unfold wpList
  rw [guard_wanted hs hg]
  simp only [if_true]
  refine .inl (Oper.wp_mono (fun a' w' hx => ?_) (ho H ι a w n _ hs))
  obtain ⟨v, r, hn, H', ι', hr, rfl, h1, h2, h3⟩ := hx
  have hs' := hs.put (d := o.dst) (r := some r) h2 h3 (fun x ex => by cases ex; exact h1) (lt_of hd hb)
  rw [hd] at hs' ⊢
  exact wpList_post (fun e a2 w2 hp => Post.step hs.heap h2 h3 hp) _ _ _ (hr H' ι' _ w' hs')
end
def srcEv (h : AHeap) : AV → Option (List Nat × List (List AV))
  | .lst ex es => some ([], es)
  | .nil => some ([], [])
  | .ref b n off len => match h b with
    | some (.row p sz es) => match Nat.beq n es.length with
      | true => some ([b], (es.drop off).take len)
      | false => none
    | _ => none
  | _ => none
theorem srcEv_spec {h : AHeap} {q : AV} {R : List Nat} {es : List (List AV)} (e : srcEv h q = some (R, es)) : SrcOf h q R es := by
  unfold srcEv at e
  split at e
  · simp only [Option.some.injEq, Prod.mk.injEq] at e
    obtain ⟨rfl, rfl⟩ := e
    exact .lst _ _
  · simp only [Option.some.injEq, Prod.mk.injEq] at e
    obtain ⟨rfl, rfl⟩ := e
    exact .nil
  · split at e
    · rename_i hb
      split at e
      · rename_i h1
        simp only [Option.some.injEq, Prod.mk.injEq] at e
        obtain ⟨rfl, rfl⟩ := e
        exact .ref _ _ _ _ _ _ _ hb (Nat.eq_of_beq_eq_true h1)
      · cases e
    · cases e
  · cases e
def allLen (n : Nat) (es : List (List AV)) : Bool := es.all fun cs => Nat.beq cs.length n
theorem allLen_spec {n : Nat} {es : List (List AV)} (h : allLen n es = true) : ∀ cs ∈ es, cs.length = n := fun cs hc => Nat.eq_of_beq_eq_true (List.all_eq_true.1 h cs hc)
def allPure (p : Bool) (es : List (List AV)) : Bool := !p || es.all fun cs => cs.all AV.isPure1
theorem allPure_spec {p : Bool} {es : List (List AV)} (h : allPure p es = true) : p = true → ∀ cs ∈ es, cs.all AV.isPure1 = true := fun hp cs hc => by
  unfold allPure at h
  rw [hp, Bool.not_true, Bool.false_or] at h
  exact List.all_eq_true.1 h cs hc
abbrev XRes := List Nat × List (Nat × AObj) × Option AV × Nat
def appEv (T : Nat → Option TyI) (h : AHeap) (k : Nat) (t t' : TypeId) (p q : AV) : Option XRes :=
  match elemTy T t, elemTy T t', srcEv h q with
  | some j, some _, some (R, es2) => match zeroOk j, allLen j.size es2 with
    | true, true => match p with
      | .nil => match isFree h k, Nat.blt 0 es2.length, Nat.ble (es2.length * j.bytes) 140737488355328, Nat.ble es2.length maxLen with
        | true, true, true, true => some (k :: R, [(k, .row false j.size es2)], some (.ref k es2.length 0 es2.length), k + 1)
        | _, _, _, _ => none
      | .ref b n 0 len => match h b with
        | some (.row pu sz es) => match Nat.beq n es.length, Nat.beq sz j.size, allPure pu es2 with
          | true, true, true => match Nat.beq len n with
            | true => match Nat.ble ((es.length + es2.length) * j.bytes) 140737488355328, Nat.ble (es.length + es2.length) maxLen with
              | true, true => some (b :: R, [(b, .row pu sz (es ++ es2))], some (.ref b (n + es2.length) 0 (n + es2.length)), k)
              | _, _ => none
            | false => match es2, Nat.ble len n, Nat.ble ((es.length + 1) * j.bytes) 140737488355328, Nat.ble (es.length + 1) maxLen with
              | [cs2], true, true, true => some (b :: R, [(b, .row pu sz (pushE es len cs2))], some (.ref b (pushE es len cs2).length 0 (len + 1)), k)
              | _, _, _, _ => none
          | _, _, _ => none
        | _ => none
      | _ => none
    | _, _ => none
  | _, _, _ => none
section
variable {P : Program} {T : Nat → Option TyI} {o : Oper} {e : AEnv} {h : AHeap}
theorem appEv_spec (hT : TOk P T) {t t' : TypeId} {x y : Operand} {p q : AV} {k k' : Nat} {R : List Nat} {W : List (Nat × AObj)} {r : Option AV} (ho : o.op = .call { callee := .builtin .append, args := #[x, y], argTypes := #[t, t'] }) (hx : look e x = some p) (hy : look e y = some q)
    (hv : appEv T h k t t' p q = some (R, W, r, k')) : OLoc P o e h R W r := by
  unfold appEv at hv
  split at hv
  · rename_i j j' R0 es2 hj hj' hs
    obtain ⟨i, u, a1, a2, a3⟩ := elemTy_spec hj
    obtain ⟨i', u', b1, b2, b3⟩ := elemTy_spec hj'
    have hsrc := srcEv_spec hs
    split at hv
    · rename_i hz hl
      obtain ⟨z1, z2, z3⟩ := zeroOk_spec hz
      split at hv
      · split at hv
        · rename_i c1 c2 c3 c4
          simp only [Option.some.injEq, Prod.mk.injEq] at hv
          obtain ⟨rfl, rfl, rfl, rfl⟩ := hv
          exact o_appendN hT k ho hx hy a1 a2 a3 b1 b2 (isFree_spec c1) z1 z2 hsrc (allLen_spec hl) (by simpa [Nat.blt_eq] using c2) (Nat.le_of_ble_eq_true c3) (Nat.le_of_ble_eq_true c4)
        · cases hv
      · rename_i b n len
        split at hv
        · rename_i pu sz es hb
          split at hv
          · rename_i c1 c2 c3
            split at hv
            · rename_i c4
              have c4 := Nat.eq_of_beq_eq_true c4
              subst c4
              split at hv
              · rename_i c5 c6
                simp only [Option.some.injEq, Prod.mk.injEq] at hv
                obtain ⟨rfl, rfl, rfl, rfl⟩ := hv
                have c2' := Nat.eq_of_beq_eq_true c2
                exact o_append hT ho hx hy a1 a2 a3 b1 b2 hb (Nat.eq_of_beq_eq_true c1) c2' z1 z2 hsrc (by rw [c2']; exact allLen_spec hl) (allPure_spec c3) rfl (Nat.le_of_ble_eq_true c5) (Nat.le_of_ble_eq_true c6)
              · cases hv
            · split at hv
              · rename_i cs2 c5 c6 c7
                simp only [Option.some.injEq, Prod.mk.injEq] at hv
                obtain ⟨rfl, rfl, rfl, rfl⟩ := hv
                have c2' := Nat.eq_of_beq_eq_true c2
                exact o_push hT ho hx hy a1 a2 a3 b1 b2 hb (Nat.eq_of_beq_eq_true c1) (Nat.le_of_ble_eq_true c5) c2' z1 z2 hsrc (by rw [c2']; exact allLen_spec hl _ (by simp)) (fun hp => allPure_spec c3 hp _ (by simp)) (Nat.le_of_ble_eq_true c6) (Nat.le_of_ble_eq_true c7)
              · cases hv
          · cases hv
        · cases hv
      · cases hv
    · cases hv
  · cases hv
end
def xEv (T : Nat → Option TyI) (dst : Option Nat) (o : Op) (e : AEnv) (h : AHeap) (k : Nat) : Option XRes :=
  match o with
  | .alloc t => match T t, isFree h k with
    | some i, true => match zeroOk i with
      | true => some ([k], [(k, .row false i.size [i.zero])], some (.ptr k 1 0 0), k + 1)
      | false => none
    | _, _ => none
  | .box t x => match look e x, isFree h k with
    | some p, true => match Nat.blt 0 p.cells.length, p.cells.all AV.cell1 with
      | true, true => some ([k], [(k, .row false p.cells.length [p.cells])], some (.ptr k 1 0 0), k + 1)
      | _, _ => none
    | _, _ => none
  | .store t x y => match dst, look e x, look e y, T t with
    | none, some (.ptr b m k0 off), some q, some i => match h b with
      | some (.row p sz es) => match es[k0]?, Nat.beq m es.length, Nat.beq q.cells.length i.size, Nat.ble (off + i.size) sz, q.cells.all AV.cell1, (!p || q.cells.all AV.isPure1) with
        | some cs, true, true, true, true, true => some ([b], [(b, .row p sz (es.set k0 (splice cs off q.cells)))], none, k)
        | _, _, _, _, _, _ => none
      | _ => none
    | _, _, _, _ => none
  | .buildSlice t len parts => match lookParts e parts.toList, elemTy T t, isFree h k with
    | some ps, some j, true => match zeroOk j, decide (parts.toList.map (·.1) = List.range parts.toList.length), Nat.beq parts.toList.length len, sizesAre j.size ps, (partVals ps).all (·.all AV.cell1), Nat.ble (len * j.size) 16777216 with
      | true, true, true, true, true, true => some ([k], [(k, .row false j.size (partVals ps))], some (.ref k len 0 len), k + 1)
      | _, _, _, _, _, _ => none
    | _, _, _ => none
  | .makeSlice t x y => match look e x, look e y, elemTy T t, isFree h k with
    | some (.int _ zi), some (.int _ zj), some j, true => match zeroOk j, decide (0 ≤ zi), decide (0 ≤ zj), Nat.ble zi.toNat zj.toNat, Nat.ble (j.bytes * zj.toNat) 281474976710656, Nat.ble zj.toNat maxLen with
      | true, true, true, true, true, true => some ([k], [(k, .row false j.size (List.replicate zi.toNat j.zero))], some (.ref k zi.toNat 0 zi.toNat), k + 1)
      | _, _, _, _, _, _ => none
    | _, _, _, _ => none
  | .call ⟨.builtin .append, args, tys⟩ => match args.toList, tys.toList with
    | [x, y], [t, t'] => match look e x, look e y with
      | some p, some q => appEv T h k t t' p q
      | _, _ => none
    | _, _ => none
  | _ => none
section
variable {P : Program} {T : Nat → Option TyI} {o : Oper} {e : AEnv} {h : AHeap}
theorem arr_two {α : Type} {a : Array α} {x y : α} (h : a.toList = [x, y]) : a = #[x, y] := Array.ext' h
theorem xEv_spec (hT : TOk P T) {k k' : Nat} {R : List Nat} {W : List (Nat × AObj)} {r : Option AV} (hv : xEv T o.dst o.op e h k = some (R, W, r, k')) : OLoc P o e h R W r := by
  unfold xEv at hv
  split at hv
  · rename_i t ho
    split at hv
    · rename_i i hi hf
      split at hv
      · rename_i hz
        simp only [Option.some.injEq, Prod.mk.injEq] at hv
        obtain ⟨rfl, rfl, rfl, rfl⟩ := hv
        obtain ⟨z1, z2, z3⟩ := zeroOk_spec hz
        exact o_alloc hT k ho hi (isFree_spec hf) z1 z2 z3
      · cases hv
    · cases hv
  · rename_i t x ho
    split at hv
    · rename_i p hx hf
      split at hv
      · rename_i c1 c2
        simp only [Option.some.injEq, Prod.mk.injEq] at hv
        obtain ⟨rfl, rfl, rfl, rfl⟩ := hv
        exact o_box k ho hx (isFree_spec hf) rfl (by simpa [Nat.blt_eq] using c1) c2
      · cases hv
    · cases hv
  · rename_i t x y ho
    split at hv
    · rename_i b m k0 off q i hd hx hy hi
      split at hv
      · rename_i p sz es hb
        split at hv
        · rename_i cs c1 c2 c3 c4 c5 c6
          simp only [Option.some.injEq, Prod.mk.injEq] at hv
          obtain ⟨rfl, rfl, rfl, rfl⟩ := hv
          exact o_store hT ho hd hx hy hi hb (Nat.eq_of_beq_eq_true c2) c1 (Nat.eq_of_beq_eq_true c3) (Nat.le_of_ble_eq_true c4) c5 (fun hp => by rw [hp] at c6; simpa using c6)
        · cases hv
      · cases hv
    · cases hv
  · rename_i t len parts ho
    split at hv
    · rename_i ps j hp hj hf
      obtain ⟨i, u, a1, a2, a3⟩ := elemTy_spec hj
      split at hv
      · rename_i c1 c2 c3 c4 c5 c6
        simp only [Option.some.injEq, Prod.mk.injEq] at hv
        obtain ⟨rfl, rfl, rfl, rfl⟩ := hv
        obtain ⟨z1, z2, z3⟩ := zeroOk_spec c1
        exact o_litRow hT k false ho hp a1 a2 a3 z1 z2 (of_decide_eq_true c2) (Nat.eq_of_beq_eq_true c3) c4 c5 (fun h => by cases h) c6 (isFree_spec hf)
      · cases hv
    · cases hv
  · rename_i t x y ho
    split at hv
    · rename_i k1 zi k2 zj j hx hy hj hf
      obtain ⟨i, u, a1, a2, a3⟩ := elemTy_spec hj
      split at hv
      · rename_i c1 c2 c3 c4 c5 c6
        simp only [Option.some.injEq, Prod.mk.injEq] at hv
        obtain ⟨rfl, rfl, rfl, rfl⟩ := hv
        obtain ⟨z1, z2, z3⟩ := zeroOk_spec c1
        exact o_makeSlice hT k false ho hx hy (Int.toNat_of_nonneg (of_decide_eq_true c2)).symm (Int.toNat_of_nonneg (of_decide_eq_true c3)).symm a1 a2 a3 (isFree_spec hf) z1 z2 z3 (Nat.le_of_ble_eq_true c4) (Nat.le_of_ble_eq_true c5) (Nat.le_of_ble_eq_true c6)
      · cases hv
    · cases hv
  · rename_i args tys ho
    split at hv
    · rename_i x y t t' ha ht
      split at hv
      · rename_i p q hx hy
        exact appEv_spec hT (ho.trans (by rw [arr_two ha, arr_two ht])) hx hy hv
      · cases hv
    · cases hv
  · cases hv
end
section
variable {P : Program} {T : Nat → Option TyI} {o : Oper} {e : AEnv} {h : AHeap}
theorem o_range0 (hT : TOk P T) {t : TypeId} {x : Operand} {i : TyI} {u u' : Nat} (b : Nat) (ho : o.op = .range t x) (hx : look e x = some (.val (.map none))) (hi : T t = some i) (hk : i.k = .map u u') (hb : h b = some .free) : OLoc P o e h [b] [(b, .iter0)] (some (.ptr b 0 0 0)) := by
  intro H ι a w s Q hs h1 h2
  have hb' : s.h b = some .free := by rw [h2 b (by simp), hb]
  have hx' : look s.env x = some (.val (.map none)) := by rw [h1 x (by rw [ho]; simp [Op.operands]), hx]
  have hv := ((look_rel hs hx').val_inv).1
  obtain ⟨info, d, e1, e2, e3, e4, e5, e6⟩ := tyOf_spec (hT _ _ hi)
  have hd := tk_map (P := P) (d := d) (e3 ▸ hk)
  subst hd
  obtain ⟨u1, u2⟩ := hs.heap.upd (o' := .iter0) (r' := ⟨w.heap.size, 0, 0, 1⟩) (w' := w.alloc (.mapIter none 0 #[] 0)) hb' rfl (.inl rfl) (fun _ => .inl (Nat.le_refl _)) (fun rb hlt _ => heap_alloc_old w _ hlt) (by simp) rfl rfl
    ⟨rfl, rfl, by simp [Ent.solid], heap_alloc_new w _⟩
  have hrun : (execOp a.eval o).run P w = .ok (.value (.pointer (some ⟨w.heap.size, 0, none⟩))) (w.alloc (.mapIter none 0 #[] 0)) := by
    simp [execOp, ho, Instr.range, hv, run_underlying' e2]
  unfold Oper.wp
  rw [hrun]
  refine ⟨_, H, _, rfl, fun x ex => ?_, u1, u2⟩
  cases ex
  have := Rel.ptrL (H := H) (lput ι b ⟨w.heap.size, 0, 0, 1⟩) b 0 0 0 _ (lput_same _ _ _) rfl
  simpa using this
theorem q_next0 {x : Operand} {b : Nat} (ho : o.op = .next x false) (hx : look e x = some (.ptr b 0 0 0)) (hb : h b = some .iter0) : QLoc P o e h [b] (.tup [.bool false]) := by
  intro H ι a w s hs h1 h2
  have hb' : s.h b = some .iter0 := by rw [h2 b (by simp), hb]
  have hx' : look s.env x = some (.ptr b 0 0 0) := by rw [h1 x (by rw [ho]; simp [Op.operands]), hx]
  obtain ⟨r, r1, ⟨r2, r2n, r3, r4⟩, r5⟩ := hs.heap.obj b _ hb' rfl
  have hv : a.eval x = .pointer (some ⟨r.rb, 0, none⟩) := by
    have hv := look_rel hs hx'
    generalize a.eval x = v at hv
    cases hv with
    | ptrL _ _ _ _ _ r' e1 e2 => rw [r1] at e1; cases e1; simp
    | ptrS _ _ _ _ _ r' ad e1 e2 =>
      rw [r1] at e1; cases e1
      omega
  refine ⟨.tuple #[.bool false], .tup _ _ _ rfl (fun j x v h1 h2 => ?_), ?_⟩
  · cases j with
    | zero => simp at h1 h2; subst h1; subst h2; exact .bool _ _
    | succ j => simp at h1
  · have hg : (getObj r.rb).run P w = .ok (.mapIter none 0 #[] 0) w := by simp [getObj, Sem.run, r4]
    simp [execOp, ho, hv, Instr.next, hg]
end
def unkv (K : IntKind) : List (AV × AV) → Option NMap
  | [] => some []
  | (.int K' z, v) :: r => match decide (K' = K), unkv K r with
    | true, some m => some ((z, v) :: m)
    | _, _ => none
  | _ :: _ => none
theorem unkv_spec {K : IntKind} : ∀ {l : List (AV × AV)} {m : NMap}, unkv K l = some m → l = kvs K m
  | [], m, h => by simp [unkv] at h; subst h; rfl
  | (k, v) :: r, m, h => by
    cases k with
    | int K' z =>
      unfold unkv at h
      split at h
      · rename_i m' h1 h2
        simp only [Option.some.injEq] at h
        subst h
        have := of_decide_eq_true h1
        subst this
        rw [unkv_spec h2]; rfl
      · cases h
    | _ => simp [unkv] at h
def intOf : TK → Option IntKind
  | .int K => some K
  | _ => none
theorem intOf_spec {k : TK} {K : IntKind} (h : intOf k = some K) : k = .int K := by
  cases k <;> simp [intOf] at h
  subst h; rfl
def mapTy (T : Nat → Option TyI) (t : Nat) : Option (IntKind × Nat) := match T t with
  | some i => match i.k with
    | .map kt et => match T kt with
      | some j => match intOf j.k with
        | some K => some (K, et)
        | none => none
      | none => none
    | _ => none
  | none => none
theorem mapTy_spec {T : Nat → Option TyI} {t : Nat} {K : IntKind} {et : Nat} (h : mapTy T t = some (K, et)) : ∃ i j kt, T t = some i ∧ i.k = .map kt et ∧ T kt = some j ∧ j.k = .int K := by
  unfold mapTy at h
  split at h
  · rename_i i hi
    split at h
    · rename_i kt et' hk
      split at h
      · rename_i j hj
        split at h
        · rename_i K' hK
          simp only [Option.some.injEq, Prod.mk.injEq] at h
          obtain ⟨rfl, rfl⟩ := h
          exact ⟨i, j, kt, hi, hk, hj, intOf_spec hK⟩
        · cases h
      · cases h
    · cases h
  · cases h
def isMapTy (T : Nat → Option TyI) (t : Nat) : Bool := match T t with
  | some i => match i.k with
    | .map _ _ => true
    | _ => false
  | none => false
theorem isMapTy_spec {T : Nat → Option TyI} {t : Nat} (h : isMapTy T t = true) : ∃ i k u, T t = some i ∧ i.k = .map k u := by
  unfold isMapTy at h
  split at h
  · rename_i i hi
    split at h
    · rename_i k u hk; exact ⟨i, k, u, hi, hk⟩
    · cases h
  · cases h
def zeroAt (P : Program) (et : Nat) : Option AV := match (P.info? et).bind (·.zero) with
  | some zv => cellAV zv
  | none => none
theorem zeroAt_spec {P : Program} {et : Nat} {z0 : AV} (h : zeroAt P et = some z0) : ∃ zv, (P.info? et).bind (·.zero) = some zv ∧ cellAV zv = some z0 := by
  unfold zeroAt at h
  split at h
  · rename_i zv hz; exact ⟨zv, hz, h⟩
  · cases h
def qEv3 (P : Program) (T : Nat → Option TyI) (o : Op) (e : AEnv) (h : AHeap) : Option (List Nat × AV) :=
  match o with
  | .next x false => match look e x with
    | some (.ptr b 0 0 0) => match h b with
      | some .iter0 => some ([b], .tup [.bool false])
      | _ => none
    | _ => none
  | .lookup t x y true => match look e x, look e y, mapTy T t with
    | some (.map b), some (.int K z), some (K', et) => match h b, zeroAt P et, decide (K' = K) with
      | some (.map l), some z0, true => match unkv K l with
        | some m => some ([b], .tup [(kget z m).getD z0, .bool (kget z m).isSome])
        | none => none
      | _, _, _ => none
    | _, _, _ => none
  | .binOp .eql t x y _ => match look e x, look e y, T t with
    | some (.bool a), some (.bool b), some i => match i.k with
      | .bool => some ([], .bool (a == b))
      | _ => none
    | some (.agg xs), some (.agg ys), some i => match i.k, eqPlain P t, eqCells xs ys with
      | .struct fs, true, some r => match cellKinds T fs xs, cellKinds T fs ys with
        | true, true => some ([], .bool r)
        | _, _ => none
      | _, _, _ => none
    | _, _, _ => none
  | .binOp .neq t x y _ => match look e x, look e y, T t with
    | some (.bool a), some (.bool b), some i => match i.k with
      | .bool => some ([], .bool (a != b))
      | _ => none
    | some (.agg xs), some (.agg ys), some i => match i.k, eqPlain P t, eqCells xs ys with
      | .struct fs, true, some r => match cellKinds T fs xs, cellKinds T fs ys with
        | true, true => some ([], .bool (!r))
        | _, _ => none
      | _, _, _ => none
    | _, _, _ => none
  | _ => none
section
variable {P : Program} {T : Nat → Option TyI} {o : Oper} {e : AEnv} {h : AHeap} {R : List Nat} {r : AV}
theorem qEv3_spec (hT : TOk P T) (hq : qEv3 P T o.op e h = some (R, r)) : QLoc P o e h R r := by
  unfold qEv3 at hq
  split at hq
  · rename_i x ho
    split at hq
    · rename_i b hx
      split at hq
      · rename_i hb
        simp only [Option.some.injEq, Prod.mk.injEq] at hq
        obtain ⟨rfl, rfl⟩ := hq
        exact q_next0 ho hx hb
      · cases hq
    · cases hq
  · rename_i t x y ho
    split at hq
    · rename_i b K z K' et hx hy ht
      split at hq
      · rename_i l z0 hb hz hK
        split at hq
        · rename_i m hm
          simp only [Option.some.injEq, Prod.mk.injEq] at hq
          obtain ⟨rfl, rfl⟩ := hq
          have hK := of_decide_eq_true hK
          subst hK
          obtain ⟨i, j, kt, a1, a2, a3, a4⟩ := mapTy_spec ht
          obtain ⟨zv, z1, z2⟩ := zeroAt_spec hz
          exact q_lookupOk hT ho hx hy (by rw [hb, unkv_spec hm]) a1 a2 a3 a4 z1 z2
        · cases hq
      · cases hq
    · cases hq
  · rename_i t x y t' ho
    split at hq
    · rename_i a b i hx hy hi
      split at hq
      · rename_i hk
        simp only [Option.some.injEq, Prod.mk.injEq] at hq
        obtain ⟨rfl, rfl⟩ := hq
        exact q_boolEq hT false ho hx hy hi hk
      · cases hq
    · rename_i xs ys i hx hy hi
      split at hq
      · rename_i fs r' hk hp hr
        split at hq
        · rename_i h1 h2
          simp only [Option.some.injEq, Prod.mk.injEq] at hq
          obtain ⟨rfl, rfl⟩ := hq
          exact q_eqStruct hT false ho hx hy hp hi hk h1 h2 hr
        · cases hq
      · cases hq
    · cases hq
  · rename_i t x y t' ho
    split at hq
    · rename_i a b i hx hy hi
      split at hq
      · rename_i hk
        simp only [Option.some.injEq, Prod.mk.injEq] at hq
        obtain ⟨rfl, rfl⟩ := hq
        exact q_boolEq hT true ho hx hy hi hk
      · cases hq
    · rename_i xs ys i hx hy hi
      split at hq
      · rename_i fs r' hk hp hr
        split at hq
        · rename_i h1 h2
          simp only [Option.some.injEq, Prod.mk.injEq] at hq
          obtain ⟨rfl, rfl⟩ := hq
          exact q_eqStruct hT true ho hx hy hp hi hk h1 h2 hr
        · cases hq
      · cases hq
    · cases hq
  · cases hq
end
def xEv3 (T : Nat → Option TyI) (dst : Option Nat) (o : Op) (e : AEnv) (h : AHeap) (k : Nat) : Option XRes :=
  match o with
  | .range t x => match look e x, isFree h k, isMapTy T t with
    | some (.val (.map none)), true, true => some ([k], [(k, .iter0)], some (.ptr k 0 0 0), k + 1)
    | _, _, _ => none
  | .makeMap t none => match mapTy T t, isFree h k with
    | some (K, _), true => some ([k], [(k, .map (kvs K []))], some (.map k), k + 1)
    | _, _ => none
  | .mapUpdate t x y u => match dst, look e x, look e y, look e u, mapTy T t with
    | none, some (.map b), some (.int K z), some q, some (K', _) => match h b, q.isPure, decide (K' = K) with
      | some (.map l), true, true => match unkv K l with
        | some m => some ([b], [(b, .map (kvs K (kset z q m)))], none, k)
        | none => none
      | _, _, _ => none
    | _, _, _, _, _ => none
  | .call ⟨.builtin .delete, args, tys⟩ => match dst, args.toList, tys.toList with
    | none, [x, y], [t, _] => match look e x, look e y, mapTy T t with
      | some (.map b), some (.int K z), some (K', _) => match h b, decide (K' = K) with
        | some (.map l), true => match unkv K l with
          | some m => some ([b], [(b, .map (kvs K (kdel z m)))], none, k)
          | none => none
        | _, _ => none
      | _, _, _ => none
    | _, _, _ => none
  | _ => none
section
variable {P : Program} {T : Nat → Option TyI} {o : Oper} {e : AEnv} {h : AHeap}
theorem xEv3_spec (hT : TOk P T) {k k' : Nat} {R : List Nat} {W : List (Nat × AObj)} {r : Option AV} (hv : xEv3 T o.dst o.op e h k = some (R, W, r, k')) : OLoc P o e h R W r := by
  unfold xEv3 at hv
  split at hv
  · rename_i t x ho
    split at hv
    · rename_i hx hf hm
      simp only [Option.some.injEq, Prod.mk.injEq] at hv
      obtain ⟨rfl, rfl, rfl, rfl⟩ := hv
      obtain ⟨i, kk, u, a1, a2⟩ := isMapTy_spec hm
      exact o_range0 hT k ho hx a1 a2 (isFree_spec hf)
    · cases hv
  · rename_i t ho
    split at hv
    · rename_i K et hm hf
      simp only [Option.some.injEq, Prod.mk.injEq] at hv
      obtain ⟨rfl, rfl, rfl, rfl⟩ := hv
      exact o_makeMap K k ho (isFree_spec hf)
    · cases hv
  · rename_i t x y u ho
    split at hv
    · rename_i b K z q K' et hd hx hy hu hm
      split at hv
      · rename_i l hb hp hK
        split at hv
        · rename_i m hl
          simp only [Option.some.injEq, Prod.mk.injEq] at hv
          obtain ⟨rfl, rfl, rfl, rfl⟩ := hv
          have hK := of_decide_eq_true hK
          subst hK
          obtain ⟨i, j, kt, a1, a2, a3, a4⟩ := mapTy_spec hm
          exact o_mapUpdate hT ho hd hx hy hu hp (by rw [hb, unkv_spec hl]) a1 a2 a3 a4
        · cases hv
      · cases hv
    · cases hv
  · rename_i args tys ho
    split at hv
    · rename_i x y t tk hd ha ht
      split at hv
      · rename_i b K z K' et hx hy hm
        split at hv
        · rename_i l hb hK
          split at hv
          · rename_i m hl
            simp only [Option.some.injEq, Prod.mk.injEq] at hv
            obtain ⟨rfl, rfl, rfl, rfl⟩ := hv
            have hK := of_decide_eq_true hK
            subst hK
            obtain ⟨i, j, kt, a1, a2, a3, a4⟩ := mapTy_spec hm
            exact o_delete hT (ho.trans (by rw [arr_two ha, arr_two ht])) hd hx hy (by rw [hb, unkv_spec hl]) a1 a2 a3 a4
          · cases hv
        · cases hv
      · cases hv
    · cases hv
  · cases hv
end
def unarr (K : IntKind) : List AV → Option (List Int)
  | [] => some []
  | .int K' z :: r => match decide (K' = K), unarr K r with
    | true, some l => some (z :: l)
    | _, _ => none
  | _ :: _ => none
theorem unarr_spec {K : IntKind} : ∀ {l : List AV} {z : List Int}, unarr K l = some z → l = arrAV K z
  | [], z, h => by simp [unarr] at h; subst h; rfl
  | x :: r, z, h => by
    cases x with
    | int K' n =>
      unfold unarr at h
      split at h
      · rename_i l h1 h2
        simp only [Option.some.injEq] at h
        subst h
        have := of_decide_eq_true h1
        subst this
        rw [unarr_spec h2]; rfl
      · cases h
    | _ => simp [unarr] at h
def unkvA (K : IntKind) (n : Nat) : List (AV × AV) → Option AMap
  | [] => some []
  | (.agg ks, v) :: r => match unarr K ks, unkvA K n r with
    | some z, some m => match Nat.beq z.length n with
      | true => some ((z, v) :: m)
      | false => none
    | _, _ => none
  | _ :: _ => none
theorem unkvA_spec {K : IntKind} {n : Nat} : ∀ {l : List (AV × AV)} {m : AMap}, unkvA K n l = some m → l = kvsA K m ∧ ∀ p ∈ m, p.1.length = n
  | [], m, h => by simp [unkvA] at h; subst h; exact ⟨rfl, fun p hp => by cases hp⟩
  | (k, v) :: r, m, h => by
    cases k with
    | agg ks =>
      unfold unkvA at h
      split at h
      · rename_i z m' h1 h2
        split at h
        · rename_i h3
          simp only [Option.some.injEq] at h
          subst h
          obtain ⟨a1, a2⟩ := unkvA_spec h2
          refine ⟨by rw [a1, unarr_spec h1]; rfl, fun p hp => ?_⟩
          rcases List.mem_cons.1 hp with rfl | hp
          · exact Nat.eq_of_beq_eq_true h3
          · exact a2 p hp
        · cases h
      · cases h
    | _ => simp [unkvA] at h
def arrTy (P : Program) (T : Nat → Option TyI) (t : Nat) : Option (Nat × IntKind) := match T t with
  | some i => match i.k with
    | .array n e0 => match T e0, Nat.beq (P.cellsOf e0) 1 with
      | some j, true => match intOf j.k with
        | some K => some (n, K)
        | none => none
      | _, _ => none
    | _ => none
  | none => none
theorem arrTy_spec {P : Program} {T : Nat → Option TyI} {t n : Nat} {K : IntKind} (h : arrTy P T t = some (n, K)) : ∃ i e0 j, T t = some i ∧ i.k = .array n e0 ∧ T e0 = some j ∧ j.k = .int K ∧ P.cellsOf e0 = 1 := by
  unfold arrTy at h
  split at h
  · rename_i i hi
    split at h
    · rename_i n' e0 hk
      split at h
      · rename_i j hj hc
        split at h
        · rename_i K' hK
          simp only [Option.some.injEq, Prod.mk.injEq] at h
          obtain ⟨rfl, rfl⟩ := h
          exact ⟨i, e0, j, hi, hk, hj, intOf_spec hK, Nat.eq_of_beq_eq_true hc⟩
        · cases h
      · cases h
    · cases h
  · cases h
def mapTyA (P : Program) (T : Nat → Option TyI) (t : Nat) : Option (Nat × IntKind × Nat) := match T t with
  | some i => match i.k with
    | .map kt et => match arrTy P T kt with
      | some (n, K) => some (n, K, et)
      | none => none
    | _ => none
  | none => none
theorem mapTyA_spec {P : Program} {T : Nat → Option TyI} {t n et : Nat} {K : IntKind} (h : mapTyA P T t = some (n, K, et)) : ∃ i kt, T t = some i ∧ i.k = .map kt et ∧ arrTy P T kt = some (n, K) := by
  unfold mapTyA at h
  split at h
  · rename_i i hi
    split at h
    · rename_i kt et' hk
      split at h
      · rename_i n' K' ha
        simp only [Option.some.injEq, Prod.mk.injEq] at h
        obtain ⟨rfl, rfl, rfl⟩ := h
        exact ⟨i, kt, hi, hk, ha⟩
      · cases h
    · cases h
  · cases h
section
variable {P : Program} {T : Nat → Option TyI} {o : Oper} {e : AEnv} {h : AHeap}
theorem q_sliceEnd (hT : TOk P T) {t : TypeId} {x y : Operand} {b n off len : Nat} {i j : TyI} {u : Nat} {k : IntKind} (ho : o.op = .slice t x (some y) none none) (hx : look e x = some (.ref b n off len)) (hy : look e y = some (.int k (len : Int))) (ht : T t = some i) (hk : i.k = .slice u) (hj : T u = some j)
    {p : Bool} {sz : Nat} {es : List (List AV)} (hb : h b = some (.row p sz es)) (hn : n = es.length) (h0 : 0 < es.length) : QLoc P o e h [b] (.lst false []) := by
  intro H ι a w s hs g1 g2
  have hx' : look s.env x = some (.ref b n off len) := by rw [g1 x (by rw [ho]; simp [Op.operands]), hx]
  have hy' : look s.env y = some (.int k (len : Int)) := by rw [g1 y (by rw [ho]; simp [Op.operands]), hy]
  have hb' : s.h b = some (.row p sz es) := by rw [g2 b (by simp), hb]
  obtain ⟨info, d, e1, e2, e3, e4, e5, e6⟩ := tyOf_spec (hT _ _ ht)
  obtain ⟨info', d', e1', e2', e3', e4', e5', e6'⟩ := tyOf_spec (hT _ _ hj)
  have hd := tk_slice (P := P) (d := d) (e3 ▸ hk)
  subst hd
  have hvx := look_rel hs hx'
  have hvy := (look_rel hs hy').int_inv
  generalize hva : a.eval x = va at hvx
  obtain ⟨r, r1, ⟨o1, o2, o3, o4, o5, o6⟩, _⟩ := hs.heap.obj b _ hb' rfl
  have hcs : r.csz ≠ 0 := by
    have : 0 < es.length * sz := Nat.mul_pos h0 o2
    omega
  obtain ⟨hle, cap, rfl, c1, c2, c3⟩ := Rel.ref_live hvx r1 (by rw [hn, o3]) hcs
  refine ⟨.slice (if cap - len = 0 then (some ⟨r.rb, off * r.sz, none⟩) else (some ⟨r.rb, off * r.sz, none⟩ : Option Addr).map (·.add (len * j.size))) (len - len) (cap - len), ?_, ?_⟩
  · rw [Nat.sub_self]
    exact .lst0 _ _ _ _ (fun h => by cases h) (by omega) (fun hh => by split at hh <;> cases hh) trivial
  · simp only [execOp, ho, hva, hvy, Instr.sliceAt, Instr.slice, Option.map_none, Option.map_some, Sem.run_bind, run_underlying' e2, Result.andThen_ok, run_isz e1', e4', Sem.run_pure]
    have hce : (cap = len) = (cap - len = 0) := propext (by omega)
    simp [Instr.sliceBounds, Instr.sliceBound, asIntOf, c1, hce]
theorem q_bytesRow (hT : TOk P T) {t u : TypeId} {x : Operand} {l : List UInt8} {i j k : TyI} {v : Nat} {b n : Nat} {p : Bool} (ho : o.op = .convert t u x) (hx : look e x = some (.ref b n 0 n)) (hb : h b = some (.row p 1 (byteCells l))) (hn : n = l.length) (h0 : 0 < l.length)
    (hi : T t = some i) (hik : i.k = .slice v) (hv : T v = some k) (hk : k.k = .int .u8) (hj : T u = some j) (hjk : j.k = .string) : QLoc P o e h [b] (.str ⟨l.toArray⟩) := by
  intro H ι a w s hs g1 g2
  have hx' : look s.env x = some (.ref b n 0 n) := by rw [g1 x (by rw [ho]; simp [Op.operands]), hx]
  have hb' : s.h b = some (.row p 1 (byteCells l)) := by rw [g2 b (by simp), hb]
  obtain ⟨info, d, e1, e2, e3, e4, e5, e6⟩ := tyOf_spec (hT _ _ hi)
  obtain ⟨info', d', e1', e2', e3', e4', e5', e6'⟩ := tyOf_spec (hT _ _ hj)
  obtain ⟨info'', d'', e1'', e2'', e3'', e4'', e5'', e6''⟩ := tyOf_spec (hT _ _ hv)
  have hd := tk_slice (P := P) (d := d) (e3 ▸ hik)
  subst hd
  have hd := tk_string (P := P) (d := d') (e3' ▸ hjk)
  subst hd
  have hd := tk_int (P := P) (d := d'') (e3'' ▸ hk)
  subst hd
  have hvx := look_rel hs hx'
  generalize hva : a.eval x = va at hvx
  obtain ⟨r, r1, ⟨o1, o2, o3, o4, o5, o6⟩, _⟩ := hs.heap.obj b _ hb' rfl
  have hlen : (byteCells l).length = l.length := by simp [byteCells]
  have hcs : r.csz ≠ 0 := by omega
  obtain ⟨hle, cap, rfl, c1, c2, c3⟩ := Rel.ref_live hvx r1 (by omega) hcs
  obtain ⟨c, TT, d1, d2, d3, d4⟩ := o6 hcs
  refine ⟨_, .str _ _, ?_⟩
  simp only [execOp, ho, hva, Sem.run_bind]
  have key : (Go.convert t u (.slice (some ⟨r.rb, 0 * r.sz, none⟩) n cap)).run P w = .ok (.string ⟨l.toArray⟩) w := by
    rw [run_convert_bytes_string w t u v (some ⟨r.rb, 0 * r.sz, none⟩) n cap e2 e2'' e2']
    rw [run_bytesToString w _ _ cap (l.map (fun b : UInt8 => ((b.toNat : Nat) : Int))) ?_, push_all]
    have hld := run_loadCells_list (P := P) (w := w) ⟨r.rb, 0 * r.sz, none⟩ (l.map (fun b : UInt8 => Value.int .u8 b.toNat)) (fun j y hj => by
      rw [List.getElem?_map] at hj
      cases hlj : l[j]? with
      | none => rw [hlj] at hj; cases hj
      | some m =>
        rw [hlj] at hj
        cases hj
        have hbc : (byteCells l)[j]? = some [AV.int .u8 m.toNat] := by simp [byteCells, hlj]
        obtain ⟨v', q1, q2, q3⟩ := d4 j _ 0 _ hbc rfl
        rw [add_mk, d1.cell, Nat.zero_mul, Nat.zero_add]
        rw [q2.int_inv, Nat.mul_one, Nat.add_zero] at q1
        exact q1)
    rw [hn]
    simpa [List.map_map, Function.comp_def] using hld
  simp only [key, Result.andThen_ok, Sem.run_pure]
end
def unbytes : List (List AV) → Option (List UInt8)
  | [] => some []
  | [.int .u8 z] :: r => match decide (((UInt8.ofNat z.toNat).toNat : Int) = z), unbytes r with
    | true, some l => some (UInt8.ofNat z.toNat :: l)
    | _, _ => none
  | _ :: _ => none
theorem unbytes_spec : ∀ {es : List (List AV)} {l : List UInt8}, unbytes es = some l → es = byteCells l
  | [], l, h => by simp [unbytes] at h; subst h; rfl
  | cs :: r, l, h => by
    unfold unbytes at h
    split at h
    · rename_i he; cases he
    · rename_i z r' he
      cases he
      split at h
      · rename_i l' h1 h2
        simp only [Option.some.injEq] at h
        subst h
        have h1 := of_decide_eq_true h1
        have := unbytes_spec h2
        rw [this]
        simp only [byteCells, List.map_cons, h1]
      · cases h
    · cases h
def qEv4 (P : Program) (T : Nat → Option TyI) (o : Op) (e : AEnv) (h : AHeap) : Option (List Nat × AV) :=
  match o with
  | .lookup t x y true => match look e x, look e y, mapTyA P T t with
    | some (.map b), some (.agg ks), some (n, K, et) => match h b, zeroAt P et, unarr K ks with
      | some (.map l), some z0, some z => match unkvA K n l, Nat.beq z.length n with
        | some m, true => some ([b], .tup [(aget z m).getD z0, .bool (aget z m).isSome])
        | _, _ => none
      | _, _, _ => none
    | _, _, _ => none
  | .build t parts => match lookParts e parts.toList, T t with
    | some ps, some i => match i.k with
      | .array len u => match T u with
        | some j => match zeroOk i, partsFit T (arrFs len j.size u) ps, partCells (arrFs len j.size u) ps i.zero with
          | true, true, some r => some ([], .agg r)
          | _, _, _ => none
        | none => none
      | _ => none
    | _, _ => none
  | .binOp .eql t x y _ => match look e x, look e y, arrTy P T t with
    | some (.agg xs), some (.agg ys), some (n, K) => match unarr K xs, unarr K ys, P.eqGuardType P.depth t with
      | some l1, some l2, false => match Nat.beq l1.length n, Nat.beq l2.length n with
        | true, true => some ([], .bool (decide (l1 = l2)))
        | _, _ => none
      | _, _, _ => none
    | _, _, _ => none
  | .binOp .neq t x y _ => match look e x, look e y, arrTy P T t with
    | some (.agg xs), some (.agg ys), some (n, K) => match unarr K xs, unarr K ys, P.eqGuardType P.depth t with
      | some l1, some l2, false => match Nat.beq l1.length n, Nat.beq l2.length n with
        | true, true => some ([], .bool (!decide (l1 = l2)))
        | _, _ => none
      | _, _, _ => none
    | _, _, _ => none
  | .slice t x (some y) none none => match look e x, look e y, elemTy T t with
    | some (.ref b n off len), some (.int k z), some j => match h b, decide (z = (len : Int)) with
      | some (.row p sz es), true => match Nat.beq n es.length, Nat.blt 0 es.length with
        | true, true => some ([b], .lst false [])
        | _, _ => none
      | _, _ => none
    | some (.lst ex es), some (.int k z), some j => match decide (0 ≤ z), decide (z.toNat ≤ es.length), es.all (fun cs => Nat.beq cs.length j.size) with
      | true, true, true => some ([], .lst (ex && Nat.beq es.length es.length) ((es.take es.length).drop z.toNat))
      | _, _, _ => none
    | _, _, _ => none
  | .slice t x none (some y) (some y') => match look e x, look e y, look e y', elemTy T t with
    | some (.lst ex es), some (.int k z), some (.int k' z'), some j => match decide (z = (es.length : Int)), decide (z' = (es.length : Int)) with
      | true, true => some ([], .lst true es)
      | _, _ => none
    | _, _, _, _ => none
  | .convert t u x => match look e x, elemTy T t, T u with
    | some (.ref b n 0 m), some k, some j => match h b, intOf k.k, j.k with
      | some (.row p 1 es), some .u8, .string => match unbytes es with
        | some l => match Nat.beq n m, Nat.beq n l.length, Nat.blt 0 l.length with
          | true, true, true => some ([b], .str ⟨l.toArray⟩)
          | _, _, _ => none
        | none => none
      | _, _, _ => none
    | _, _, _ => none
  | _ => none
section
variable {P : Program} {T : Nat → Option TyI} {o : Oper} {e : AEnv} {h : AHeap} {R : List Nat} {r : AV}
theorem qEv4_spec (hT : TOk P T) (hq : qEv4 P T o.op e h = some (R, r)) : QLoc P o e h R r := by
  unfold qEv4 at hq
  split at hq
  · rename_i t x y ho
    split at hq
    · rename_i b ks n K et hx hy ht
      split at hq
      · rename_i l z0 z hb hz hks
        split at hq
        · rename_i m hm hzn
          simp only [Option.some.injEq, Prod.mk.injEq] at hq
          obtain ⟨rfl, rfl⟩ := hq
          obtain ⟨i, kt, a1, a2, a3⟩ := mapTyA_spec ht
          obtain ⟨j, e0, j0, b1, b2, b3, b4, b5⟩ := arrTy_spec a3
          obtain ⟨m1, m2⟩ := unkvA_spec hm
          obtain ⟨zv, z1, z2⟩ := zeroAt_spec hz
          exact q_lookupOkA hT ho hx (by rw [hy, unarr_spec hks]) (by rw [hb, m1]) a1 a2 b1 b2 b3 b4 b5 (Nat.eq_of_beq_eq_true hzn) m2 z1 z2
        · cases hq
      · cases hq
    · cases hq
  · rename_i t parts ho
    split at hq
    · rename_i ps i hp hi
      split at hq
      · rename_i len u hk
        split at hq
        · rename_i j hj
          split at hq
          · rename_i r' hz hf hr
            simp only [Option.some.injEq, Prod.mk.injEq] at hq
            obtain ⟨rfl, rfl⟩ := hq
            obtain ⟨z1, z2, z3⟩ := zeroOk_spec hz
            exact q_build_arr hT ho hp hi hk hj z1 z2 hf hr
          · cases hq
        · cases hq
      · cases hq
    · cases hq
  · rename_i t x y t' ho
    split at hq
    · rename_i xs ys n K hx hy ha
      split at hq
      · rename_i l1 l2 h1 h2 hg
        split at hq
        · rename_i h3 h4
          simp only [Option.some.injEq, Prod.mk.injEq] at hq
          obtain ⟨rfl, rfl⟩ := hq
          obtain ⟨j, e0, j0, b1, b2, b3, b4, b5⟩ := arrTy_spec ha
          exact q_eqInts hT false ho (by rw [hx, unarr_spec h1]) (by rw [hy, unarr_spec h2]) hg b1 b2 b3 b4 (Nat.eq_of_beq_eq_true h3) (Nat.eq_of_beq_eq_true h4) b5
        · cases hq
      · cases hq
    · cases hq
  · rename_i t x y t' ho
    split at hq
    · rename_i xs ys n K hx hy ha
      split at hq
      · rename_i l1 l2 h1 h2 hg
        split at hq
        · rename_i h3 h4
          simp only [Option.some.injEq, Prod.mk.injEq] at hq
          obtain ⟨rfl, rfl⟩ := hq
          obtain ⟨j, e0, j0, b1, b2, b3, b4, b5⟩ := arrTy_spec ha
          exact q_eqInts hT true ho (by rw [hx, unarr_spec h1]) (by rw [hy, unarr_spec h2]) hg b1 b2 b3 b4 (Nat.eq_of_beq_eq_true h3) (Nat.eq_of_beq_eq_true h4) b5
        · cases hq
      · cases hq
    · cases hq
  · rename_i t x y ho
    split at hq
    · rename_i b n off len k z j hx hy hj
      split at hq
      · rename_i p sz es hb hz
        split at hq
        · rename_i h1 h2
          simp only [Option.some.injEq, Prod.mk.injEq] at hq
          obtain ⟨rfl, rfl⟩ := hq
          obtain ⟨i, u, a1, a2, a3⟩ := elemTy_spec hj
          exact q_sliceEnd hT ho hx (by rw [hy, of_decide_eq_true hz]) a1 a2 a3 hb (Nat.eq_of_beq_eq_true h1) (by simpa [Nat.blt_eq] using h2)
        · cases hq
      · cases hq
    · rename_i ex es k z j hx hy hj
      split at hq
      · rename_i h0 hz h1
        simp only [Option.some.injEq, Prod.mk.injEq] at hq
        obtain ⟨rfl, rfl⟩ := hq
        obtain ⟨i, u, a1, a2, a3⟩ := elemTy_spec hj
        exact q_slice_lst hT z.toNat es.length ho hx a1 a2 a3 ⟨k, by rw [hy, Int.toNat_of_nonneg (of_decide_eq_true h0)]⟩ rfl (of_decide_eq_true hz) (Nat.le_refl _) (fun cs hc => Nat.eq_of_beq_eq_true (List.all_eq_true.1 h1 cs hc))
      · cases hq
    · cases hq
  · rename_i t x y y' ho
    split at hq
    · rename_i ex es k z k' z' j hx hy hy' hj
      split at hq
      · rename_i h1 h2
        simp only [Option.some.injEq, Prod.mk.injEq] at hq
        obtain ⟨rfl, rfl⟩ := hq
        obtain ⟨i, u, a1, a2, a3⟩ := elemTy_spec hj
        exact q_slice3 hT ho hx (by rw [hy, of_decide_eq_true h1]) (by rw [hy', of_decide_eq_true h2]) a1 a2 a3
      · cases hq
    · cases hq
  · rename_i t u x ho
    split at hq
    · rename_i b n m k j hx hk hj
      split at hq
      · rename_i p es hb hku hjk
        split at hq
        · rename_i l hl
          split at hq
          · rename_i h1 h2 h3
            simp only [Option.some.injEq, Prod.mk.injEq] at hq
            obtain ⟨rfl, rfl⟩ := hq
            obtain ⟨i, v, a1, a2, a3⟩ := elemTy_spec hk
            have h1 := Nat.eq_of_beq_eq_true h1
            subst h1
            exact q_bytesRow hT ho hx (by rw [hb, unbytes_spec hl]) (Nat.eq_of_beq_eq_true h2) (by simpa [Nat.blt_eq] using h3) a1 a2 a3 (intOf_spec hku) hj hjk
          · cases hq
        · cases hq
      · cases hq
    · cases hq
  · cases hq
end
def xEv4 (P : Program) (T : Nat → Option TyI) (dst : Option Nat) (o : Op) (e : AEnv) (h : AHeap) (k : Nat) : Option XRes :=
  match o with
  | .makeMap t none => match isFree h k with
    | true => some ([k], [(k, .map (kvs .i64 []))], some (.map k), k + 1)
    | false => none
  | .mapUpdate t x y u => match dst, look e x, look e y, look e u, mapTyA P T t with
    | none, some (.map b), some (.agg ks), some q, some (n, K, _) => match h b, q.isPure, unarr K ks with
      | some (.map l), true, some z => match unkvA K n l, Nat.beq z.length n with
        | some m, true => some ([b], [(b, .map (kvsA K (aset z q m)))], none, k)
        | _, _ => none
      | _, _, _ => none
    | _, _, _, _, _ => none
  | _ => none
theorem xEv4_spec {P : Program} {T : Nat → Option TyI} {o : Oper} {e : AEnv} {h : AHeap} (hT : TOk P T) {k k' : Nat} {R : List Nat} {W : List (Nat × AObj)} {r : Option AV} (hv : xEv4 P T o.dst o.op e h k = some (R, W, r, k')) : OLoc P o e h R W r := by
  unfold xEv4 at hv
  split at hv
  · rename_i t ho
    split at hv
    · rename_i hf
      simp only [Option.some.injEq, Prod.mk.injEq] at hv
      obtain ⟨rfl, rfl, rfl, rfl⟩ := hv
      exact o_makeMap .i64 k ho (isFree_spec hf)
    · cases hv
  · rename_i t x y u ho
    split at hv
    · rename_i b ks q n K et hd hx hy hu ht
      split at hv
      · rename_i l z hb hp hks
        split at hv
        · rename_i m hm hzn
          simp only [Option.some.injEq, Prod.mk.injEq] at hv
          obtain ⟨rfl, rfl, rfl, rfl⟩ := hv
          obtain ⟨i, kt, a1, a2, a3⟩ := mapTyA_spec ht
          obtain ⟨j, e0, j0, b1, b2, b3, b4, b5⟩ := arrTy_spec a3
          obtain ⟨m1, m2⟩ := unkvA_spec hm
          exact o_mapUpdateA hT ho hd hx (by rw [hy, unarr_spec hks]) hu hp (by rw [hb, m1]) a1 a2 b1 b2 b3 b4 b5 (Nat.eq_of_beq_eq_true hzn) m2
        · cases hv
      · cases hv
    · cases hv
  · cases hv
def qAll (P : Program) (T : Nat → Option TyI) (o : Op) (e : AEnv) (h : AHeap) : Option (List Nat × AV) := match qEv T o e h with
  | some r => some r
  | none => match qEv2 P T o e h with
    | some r => some r
    | none => match qEv3 P T o e h with
      | some r => some r
      | none => qEv4 P T o e h
def xAll (P : Program) (T : Nat → Option TyI) (dst : Option Nat) (o : Op) (e : AEnv) (h : AHeap) (k : Nat) : Option XRes := match xEv T dst o e h k with
  | some r => some r
  | none => match xEv3 T dst o e h k with
    | some r => some r
    | none => xEv4 P T dst o e h k
section
variable {P : Program} {T : Nat → Option TyI} {o : Oper} {e : AEnv} {h : AHeap} {R : List Nat} {r : AV}
theorem qAll_spec (hT : TOk P T) (hq : qAll P T o.op e h = some (R, r)) : QLoc P o e h R r := by
  unfold qAll at hq
  split at hq
  · rename_i r' h1
    rw [Option.some.injEq] at hq
    subst hq
    exact qEv_spec hT h1
  · split at hq
    · rename_i r' h1
      rw [Option.some.injEq] at hq
      subst hq
      exact qEv2_spec hT h1
    · split at hq
      · rename_i r' h1
        rw [Option.some.injEq] at hq
        subst hq
        exact qEv3_spec hT h1
      · exact qEv4_spec hT hq
theorem xAll_spec (hT : TOk P T) {k k' : Nat} {W : List (Nat × AObj)} {r : Option AV} (hv : xAll P T o.dst o.op e h k = some (R, W, r, k')) : OLoc P o e h R W r := by
  unfold xAll at hv
  split at hv
  · rename_i r' h1
    rw [Option.some.injEq] at hv
    subst hv
    exact xEv_spec hT h1
  · split at hv
    · rename_i r' h1
      rw [Option.some.injEq] at hv
      subst hv
      exact xEv3_spec hT h1
    · exact xEv4_spec hT hv
end
def ofVal1 : Value → Option AV
  | .int k n => some (.int k n)
  | .bool b => some (.bool b)
  | .string s => some (.str s)
  | .func f a b => some (.val (.func f a b))
  | _ => none
def ofVals : List Value → Option (List AV)
  | [] => some []
  | v :: vs => match ofVal1 v, ofVals vs with
    | some x, some xs => some (x :: xs)
    | _, _ => none
def ofVal : Value → Option AV
  | .agg cs => match ofVals cs.toList with
    | some xs => some (.agg xs)
    | none => none
  | v => ofVal1 v
theorem ofVal1_rel {v : Value} {x : AV} (h : ofVal1 v = some x) (H : Know) : Rel H noLay x v := by
  cases v <;> simp [ofVal1] at h <;> subst h
  · exact .bool _ _
  · exact .int _ _ _
  · exact .str _ _
  · exact .val _ _ rfl
theorem ofVals_get : ∀ {l : List Value} {xs : List AV}, ofVals l = some xs → xs.length = l.length ∧ ∀ (j : Nat) (x : AV) (v : Value), xs[j]? = some x → l[j]? = some v → ofVal1 v = some x
  | [], xs, h => by simp [ofVals] at h; subst h; exact ⟨rfl, fun j x v h => by simp at h⟩
  | v :: vs, xs, h => by
    unfold ofVals at h
    split at h
    · rename_i x ys h1 h2
      simp at h; subst h
      obtain ⟨a1, a2⟩ := ofVals_get h2
      refine ⟨by simp [a1], fun j y u e1 e2 => ?_⟩
      cases j with
      | zero => simp at e1 e2; subst e1; subst e2; exact h1
      | succ j => exact a2 j y u (by simpa using e1) (by simpa using e2)
    · cases h
theorem ofVal_rel {v : Value} {x : AV} (h : ofVal v = some x) (H : Know) : Rel H noLay x v := by
  unfold ofVal at h
  split at h
  · rename_i cs
    split at h
    · rename_i xs e
      simp at h; subst h
      obtain ⟨a1, a2⟩ := ofVals_get e
      exact .agg _ _ _ (by simpa using a1) (fun j x v e1 e2 => ofVal1_rel (a2 j x v e1 (by simpa using e2)) H)
    · cases h
  · exact ofVal1_rel h H
def calleeEv (mt : Nat → String → Option Nat) (o : Op) (e : AEnv) : Option (Nat × List AV) :=
  match o with
  | .call ⟨.value x, args, _⟩ => match look e x, lookAll e args.toList with
    | some (.fn (.func f) fs cs), some xs => some (f, fs ++ xs ++ cs)
    | some (.val (.func (.func f) a b)), some xs => match a.toList, b.toList with
      | [], [] => some (f, xs)
      | _, _ => none
    | _, _ => none
  | .call ⟨.invoke recv name, args, _⟩ => match look e recv, lookAll e args.toList with
    | some (.val (.iface t v)), some xs => match mt t name, ofVal v with
      | some f, some x0 => some (f, x0 :: xs)
      | _, _ => none
    | _, _ => none
  | _ => none
def mtOk (P : Program) (mt : Nat → String → Option Nat) : Prop := ∀ t name f v w, mt t name = some f → (method (P.types.size + Made.depth) t v name).run P w = .ok (f, v) w
def fnEv (P : Program) (f : Nat) : Option (Func × Code) := match P.funcs[f]? with
  | some fn => match fn.body, fn.name == "runtime.NumGoroutine" with
    | some c, false => some (fn, c)
    | _, _ => none
  | none => none
theorem fnEv_spec {P : Program} {f : Nat} {fn : Func} {c : Code} (h : fnEv P f = some (fn, c)) : P.funcs[f]? = some fn ∧ fn.body = some c ∧ (fn.name == "runtime.NumGoroutine") = false := by
  unfold fnEv at h
  split at h
  · rename_i fn' hf
    split at h
    · rename_i c' hb hn
      simp only [Option.some.injEq, Prod.mk.injEq] at h
      obtain ⟨rfl, rfl⟩ := h
      exact ⟨hf, hb, hn⟩
    · cases h
  · cases h
section
variable {P : Program} {T : Nat → Option TyI} {o : Oper} {e : AEnv} {h : AHeap} {R : AV → AHeap → Prop}
theorem arr_nil {α : Type} {a : Array α} (h : a.toList = []) : a = #[] := Array.ext' h
theorem calleeEv_spec {mt : Nat → String → Option Nat} (hmt : mtOk P mt) {f : Nat} {xs : List AV} {fn : Func} (hc : calleeEv mt o.op e = some (f, xs)) (hf : P.funcs[f]? = some fn) (hnm : (fn.name == "runtime.NumGoroutine") = false) (hb : fn.body.isSome = true) (hcall : ACall P f xs h R) : OCallR P o e h R := by
  unfold calleeEv at hc
  split at hc
  · rename_i x args tys ho
    split at hc
    · rename_i f' fs cs ys hx hl
      simp only [Option.some.injEq, Prod.mk.injEq] at hc
      obtain ⟨rfl, rfl⟩ := hc
      exact o_inF ho hx hf hnm hb hl hcall
    · rename_i f' a b ys hx hl
      split at hc
      · rename_i ha hb'
        simp only [Option.some.injEq, Prod.mk.injEq] at hc
        obtain ⟨rfl, rfl⟩ := hc
        exact o_inV ho (by rw [hx, arr_nil ha, arr_nil hb']) hf hnm hb hl hcall
      · cases hc
    · cases hc
  · rename_i recv name args tys ho
    split at hc
    · rename_i t v ys hx hl
      split at hc
      · rename_i f' x0 hm hv
        simp only [Option.some.injEq, Prod.mk.injEq] at hc
        obtain ⟨rfl, rfl⟩ := hc
        exact o_inM ho hx (fun w => hmt t name f' v w hm) (ofVal_rel hv) hf hnm hb hl hcall
      · cases hc
    · cases hc
  · cases hc
theorem AOps.innW {ops : Array Oper} {rest : List Oper} {n : Nat} {K : AState → Prop} (hd : o.dst = none) (hg : guardIs ops o e = some true)
    (ho : OCallR P o e h (fun r hn => AOps P ops rest ⟨n, e, hn⟩ K)) : AOps P ops (o :: rest) ⟨n, e, h⟩ K := by
  intro H ι a w hs
  unfold wpList
  rw [guard_wanted hs hg]
  simp only [if_true]
  refine .inl (Oper.wp_mono (fun a' w' hx => ?_) (ho H ι a w n _ hs))
  obtain ⟨v, r, hn, H', ι', hr, rfl, h1, h2, h3⟩ := hx
  have hs' := hs.put (v := v) (d := o.dst) (r := none) h2 h3 (fun x ex => by cases ex) (fun t e => by rw [hd] at e; cases e)
  rw [hd] at hs' ⊢
  exact wpList_post (fun e a2 w2 hp => Post.step hs.heap h2 h3 hp) _ _ _ (hr H' ι' _ w' hs')
theorem AOps.kw {ops : Array Oper} {rest : List Oper} {n : Nat} {K : AState → Prop} (hd : o.dst = none) (hg : guardIs ops o e = some false) (hr : AOps P ops rest ⟨n, e, h⟩ K) : AOps P ops (o :: rest) ⟨n, e, h⟩ K := by
  have := AOps.skip (P := P) (ops := ops) (s := ⟨n, e, h⟩) (K := K) (o := o) (rest := rest) hg (fun t e => by rw [hd] at e; cases e)
  rw [hd] at this
  exact this hr
end
end Go.Proofs.YtbbfelelocccmaaGreat.Sv
