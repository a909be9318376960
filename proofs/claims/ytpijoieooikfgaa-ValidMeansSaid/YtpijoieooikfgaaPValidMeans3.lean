/-
  THE CHECKER OF PASSES, IN PLAIN LEAN: own work, over no program.
  A STRUCT WITH A MAP IS BUILT: own work, over no program.
  THE DOCUMENT'S CHECKER: ITS TABLE AND WALK, IN PLAIN LEAN: own work, over no program.
  THE DOCUMENT'S CHECKER, BLOCK BY BLOCK, IN PLAIN LEAN: own work, over no program.
  VALUES AS TERMS: what both checkers' tables stand for, in plain Lean: own work, over no program.
  THE PROGRAM'S CHECKER COMPARES TERMS, IN PLAIN LEAN: own work, over no program.
  A BLOCK'S CHECK COMPARES TERMS, IN PLAIN LEAN: own work, over no program.
  THE DOCUMENT'S CHECKER COMPARES TERMS, IN PLAIN LEAN: own work, over no program.
  BOTH CHECKERS ARE ONE, IN PLAIN LEAN; small facts for the walks over the laws: own work, over no program.
  ARGUMENTS OF THE LAWS OF THE CHECKER, IN PLAIN LEAN: own work, over no program.
  How certificates, and pairs and triples of functions, read: own work.
  How arrays of 2 functions read: own work.
  WHAT A CHECK SAYS, BY ONE RUN OF EACH BLOCK, IN PLAIN LEAN: own work, over no program.
  A FUNCTION IS THE SAME AS ITSELF; ROWS PUT TOGETHER: plain Lean, own work, over no program.
  RUNS THAT HAVE DONE FEWER STEPS END ALIKE, IN PLAIN LEAN: own work, over no program.
  WHAT A RUN DOES, BY ITS EFFECTS, IN PLAIN LEAN: own work, over no program.
  EACH INSTRUCTION DOES WHAT ITS TERMS SAY, IN PLAIN LEAN: own work, over no program.
  WHAT IS CHECKED ENDS ALIKE, IN PLAIN LEAN: own work, over no program.
  A FUNCTION THAT IS CHECKED ENDS ALIKE, IN PLAIN LEAN: own work, over no program.
  A FUNCTION THAT IS CHECKED ENDS WHERE THE OTHER ONE DID, IN PLAIN LEAN: own work, over no program.
  ONE REGISTER MORE; SHAPES THAT ARE UNLIKE: plain Lean, own work, over no program.
  A slice that is copied behind nothing: own work.
  WHAT THE WALKS OF ValidMeans AND ValidShapes ASK, IN PLAIN LEAN: own work, over no program.
  Short names for the commonest steps of a walk (what is said of them is found by rfl).
  WALKS: printed by a program of our own from the code's tree.
  WALKS: printed by a program of our own from the code's tree.
  THE CODE'S CHECKS OF INSTRUCTIONS ARE THE DOCUMENT'S, IN PLAIN LEAN: own work, over no program.
  WALKS: printed by a program of our own from the code's tree.
-/
import Derived.Test.YtpijoieooikfgaaPValidMeans2
import Derived.Test.YtpijoieooikfgaaPValidMeans1
namespace Go.Proofs.Ytpijoieooikfgaa.Sv
open Go
def callTac (b : Int) : Tac := ⟨10, 0, 0, 0, 0, b, 0, 0⟩
def Tac.callOk (t : Tac) : Bool := t.op != 10 || (decide (0 ≤ t.base) && t.same (callTac t.base))
def noCall (l : List Tac) : List Tac := l.filter fun t => t.op != 10
def Block.bare (x : Block) : Block := { x with ins := noCall x.ins }
def BFunc.bare (f : BFunc) : BFunc := ⟨f.regs, f.blocks.map Block.bare⟩
def BFunc.stands (f : BFunc) : Bool := f.blocks.all (fun x => x.ins.all Tac.callOk) && (Blocks.mk 1048576 [f.bare]).right
def shapeB (x y : Block) : Bool := x.fin == y.fin && (x.to == y.to && x.els == y.els)
def vshaped (old new : BFunc) : Bool := decide (old.regs = new.regs) && (decide (old.blocks.length = new.blocks.length) && (old.stands && (new.stands && (old.blocks.zip new.blocks).all fun p => shapeB p.1 p.2)))
def vblocks (old new : BFunc) (c : Cert) : Bool := (old.blocks.zip new.blocks).zipIdx.all fun p => vsame old.regs.toNat p.1.1 p.1.2 c (p.2 : Int) p.1.1.nexts
def vcheck (old new : BFunc) (c : Cert) : Bool := vshaped old new && (decide (c.same.length = old.blocks.length) && ((c.same.all fun r => decide ((r.length : Int) = old.regs)) && vblocks old new c))
def vweak (f : BFunc) : Cert := ⟨List.replicate f.blocks.length (List.replicate f.regs.toNat true)⟩
theorem Ghost.freezeAll0 {n : Nat} {e : AEnv} {h : AHeap} (t b : Nat) {m sz : Nat} {es : List (List AV)} (ht : e t = some (.ref b m 0 m)) (hb : h b = some (.row true sz es)) (hm : m = es.length) :
    Ghost ⟨n, e, h⟩ ⟨n, eput e t (.lst false es), hrm h b⟩ := by
  have := Ghost.freeze (n := n) t b ht hb hm
  rwa [List.drop_zero, List.take_of_length_le (Nat.le_of_eq hm.symm)] at this
theorem ndec_same {b : Bool} (h : (!b) = false) : b = true := by simpa using h
theorem ndec_same' {b : Bool} (h : (!b) = true) : b = false := by simpa using h
theorem callOk_no {t : Tac} (h : (t.op != 10) = true) : t.callOk = true := by unfold Tac.callOk; rw [h]; rfl
theorem callOk_bad1 {t : Tac} (h : (t.op != 10) = false) (hb : decide (t.base < 0) = true) : t.callOk = false := by
  unfold Tac.callOk
  rw [h, show decide (0 ≤ t.base) = false by simp at hb ⊢; omega]; rfl
theorem callOk_bad2 {t : Tac} (h : (t.op != 10) = false) (hb : t.same (callTac t.base) = false) : t.callOk = false := by
  unfold Tac.callOk
  rw [h, hb, Bool.and_false]; rfl
theorem callOk_yes {t : Tac} (h : (t.op != 10) = false) (hb : decide (t.base < 0) = false) (h2 : t.same (callTac t.base) = true) : t.callOk = true := by
  unfold Tac.callOk
  rw [h, h2, show decide (0 ≤ t.base) = true by simp at hb ⊢; omega]; rfl
theorem noCall_yes {l : List Tac} {k : Nat} {t : Tac} (hx : l[k]? = some t) (h : (t.op != 10) = true) : noCall (l.take (k + 1)) = noCall (l.take k) ++ [t] := by
  unfold noCall
  rw [take_succ_eq hx, List.filter_append]
  simp [h]
theorem noCall_no {l : List Tac} {k : Nat} {t : Tac} (hx : l[k]? = some t) (h : (t.op != 10) = false) : noCall (l.take (k + 1)) = noCall (l.take k) := by
  unfold noCall
  rw [take_succ_eq hx, List.filter_append]
  simp [h]
theorem noCall_len (l : List Tac) : (noCall l).length ≤ l.length := List.length_filter_le _ _
theorem noCall_take (l : List Tac) (k : Nat) : (noCall (l.take k)).length ≤ l.length := Nat.le_trans (noCall_len _) (by rw [List.length_take]; omega)
theorem stands_bad {f : BFunc} {k j : Nat} {x : Block} {t : Tac} (hx : f.blocks[k]? = some x) (ht : x.ins[j]? = some t) (h : t.callOk = false) : f.stands = false := by
  unfold BFunc.stands
  rw [all_bad hx (p := fun x : Block => x.ins.all Tac.callOk) (all_bad ht h)]; rfl
theorem stands_all {f : BFunc} (h : f.blocks.all (fun x => x.ins.all Tac.callOk) = true) : f.stands = (Blocks.mk 1048576 [f.bare]).right := by
  unfold BFunc.stands; rw [h]; rfl
theorem bare_get {f : BFunc} {k : Nat} {x : Block} (h : f.blocks[k]? = some x) : (f.blocks.map Block.bare)[k]? = some x.bare := by simp [h]
structure Standing (f : BFunc) : Prop where
  r0 : 0 ≤ f.regs
  r1 : f.regs ≤ 4000
  ne : f.blocks.length ≠ 0
  tacs : ∀ x ∈ f.blocks, ∀ t ∈ x.ins, isW t.n → TacV t f.regs.toNat
  fin : ∀ x ∈ f.blocks, x.fin = 1 ∨ x.fin = 2 ∨ x.fin = 3
  v : ∀ x ∈ f.blocks, x.fin = 2 → 0 ≤ x.v ∧ x.v < f.regs
  next : ∀ x ∈ f.blocks, ∀ k ∈ x.nexts, 0 ≤ k ∧ k < f.blocks.length
theorem stands_of {f : BFunc} (h : f.stands = true) : Standing f := by
  unfold BFunc.stands at h
  rw [Bool.and_eq_true] at h
  obtain ⟨h1, h2⟩ := h
  simp only [Blocks.right, Bool.and_eq_true, decide_eq_true_eq, List.all_eq_true] at h2
  have h3 := h2.2.2.2 (f.bare, 0) (by simp)
  simp only [BFunc.one, Bool.and_eq_true, decide_eq_true_eq, Bool.not_eq_true', List.isEmpty_eq_false_iff, List.all_eq_true, BFunc.bare, List.length_map] at h3
  obtain ⟨a1, a2, a3, a4⟩ := h3
  have hb : ∀ x ∈ f.blocks, x.ends f.blocks.length f.regs = true ∧ ∀ t ∈ noCall x.ins, t.fits 0 f.regs 1048576 = true := fun x hx => by
    have := a4 x.bare (List.mem_map.2 ⟨x, hx, rfl⟩)
    unfold Block.ok at this
    rw [Bool.and_eq_true, List.all_eq_true] at this
    exact this
  have hend : ∀ x ∈ f.blocks, (x.fin = 1 ∧ within x.to f.blocks.length = true) ∨ (x.fin = 2 ∧ within x.to f.blocks.length = true ∧ within x.els f.blocks.length = true ∧ within x.v f.regs = true) ∨ x.fin = 3 := fun x hx => by
    have he := (hb x hx).1
    unfold Block.ends at he
    cases e1 : x.fin == 1 with
    | true => rw [e1] at he; simp only [cond_true, Bool.and_eq_true] at he; exact .inl ⟨by simpa using e1, he.1⟩
    | false =>
      cases e2 : x.fin == 2 with
      | true => rw [e1, e2] at he; simp only [cond_true, cond_false, Bool.and_eq_true] at he; exact .inr (.inl ⟨by simpa using e2, he.1, he.2.1, he.2.2⟩)
      | false => rw [e1, e2] at he; simp only [cond_false, Bool.and_eq_true, beq_iff_eq] at he; exact .inr (.inr he.1)
  have hw : ∀ {i n : Int}, within i n = true → 0 ≤ i ∧ i < n := fun {i n} h => by simpa [within] using h
  refine ⟨of_decide_eq_true a1, of_decide_eq_true a2, fun e => a3 (by simp [List.eq_nil_of_length_eq_zero e]), fun x hx t ht hn => ?_, fun x hx => ?_, fun x hx hf => ?_, fun x hx k hk => ?_⟩
  · by_cases h10 : t.op = 10
    · exact ⟨(fun h => by rw [h10] at h; cases h), (fun h => by rw [h10] at h; rcases h with h | h <;> cases h), (fun h => by rw [h10] at h; cases h), hn⟩
    · have hf := (hb x hx).2 t (List.mem_filter.2 ⟨ht, by simpa using h10⟩)
      have hi := tacIn_of hf
      exact ⟨hi.d, hi.a, hi.b, hn⟩
  · rcases hend x hx with h | h | h
    · exact .inl h.1
    · exact .inr (.inl h.1)
    · exact .inr (.inr h)
  · rcases hend x hx with h | h | h
    · exact absurd (hf.symm.trans h.1) (by decide)
    · exact hw h.2.2.2
    · exact absurd (hf.symm.trans h) (by decide)
  · rcases hend x hx with h | h | h
    · rw [Block.nexts, show (x.fin == 1) = true by simp [h.1]] at hk
      simp only [cond_true, List.mem_singleton] at hk
      rw [hk]; exact hw h.2
    · rw [Block.nexts, show (x.fin == 1) = false by simp [h.1], show (x.fin == 2) = true by simp [h.1]] at hk
      simp only [cond_true, cond_false, List.mem_cons, List.not_mem_nil, or_false] at hk
      rcases hk with rfl | rfl
      · exact hw h.2.1
      · exact hw h.2.2.1
    · rw [Block.nexts, show (x.fin == 1) = false by simp [h], show (x.fin == 2) = false by simp [h]] at hk
      simp at hk
theorem nexts_short (x : Block) : x.nexts.length ≤ 100000 := by
  unfold Block.nexts
  cases x.fin == 1 <;> cases x.fin == 2 <;> simp
theorem zip_at {α β : Type} {l : List α} {m : List β} {k : Nat} {x : α} {y : β} (hx : l[k]? = some x) (hy : m[k]? = some y) : (l.zip m)[k]? = some (x, y) := by
  rw [List.getElem?_zip_eq_some]; exact ⟨hx, hy⟩
theorem vshaped_regs {old new : BFunc} (h : (old.regs != new.regs) = true) : vshaped old new = false := by
  unfold vshaped; rw [decide_eq_false (by simpa using h)]; rfl
theorem vshaped_len {old new : BFunc} (h : ¬ old.blocks.length = new.blocks.length) : vshaped old new = false := by
  unfold vshaped; rw [decide_eq_false h]; simp
theorem vshaped_s1 {old new : BFunc} (h : old.stands = false) : vshaped old new = false := by unfold vshaped; rw [h]; simp
theorem vshaped_s2 {old new : BFunc} (h : new.stands = false) : vshaped old new = false := by unfold vshaped; rw [h]; simp
theorem vshaped_b {old new : BFunc} {k : Nat} {x y : Block} (hx : old.blocks[k]? = some x) (hy : new.blocks[k]? = some y) (h : shapeB x y = false) : vshaped old new = false := by
  unfold vshaped
  rw [all_bad (zip_at hx hy) (p := fun p : Block × Block => shapeB p.1 p.2) h]; simp
theorem vshaped_yes {old new : BFunc} (h1 : old.regs = new.regs) (h2 : old.blocks.length = new.blocks.length) (h3 : old.stands = true) (h4 : new.stands = true) (h5 : ((old.blocks.zip new.blocks).all fun p => shapeB p.1 p.2) = true) : vshaped old new = true := by
  unfold vshaped
  rw [decide_eq_true h1, decide_eq_true h2, h3, h4, h5]; rfl
theorem vshaped_len' {old new : BFunc} (h : ((((old.blocks.map Block.cells).length : Nat) : Int) != (((new.blocks.map Block.cells).length : Nat) : Int)) = true) : vshaped old new = false :=
  vshaped_len (fun e => by rw [List.length_map, List.length_map, e] at h; simp at h)
theorem len_eq' {old new : BFunc} (h : ((((old.blocks.map Block.cells).length : Nat) : Int) != (((new.blocks.map Block.cells).length : Nat) : Int)) = false) : old.blocks.length = new.blocks.length := by
  rw [List.length_map, List.length_map] at h
  have := bne_eq' h
  omega
theorem shape_f {x y : Block} (h : (x.fin != y.fin) = true) : shapeB x y = false := by
  unfold shapeB; rw [show (x.fin == y.fin) = false by simpa using h]; rfl
theorem shape_t {x y : Block} (h : (x.to != y.to) = true) : shapeB x y = false := by
  unfold shapeB; rw [show (x.to == y.to) = false by simpa using h]; simp
theorem shape_e {x y : Block} (h : (x.els != y.els) = true) : shapeB x y = false := by
  unfold shapeB; rw [show (x.els == y.els) = false by simpa using h]; simp
theorem shape_y {x y : Block} (h1 : (x.fin != y.fin) = false) (h2 : (x.to != y.to) = false) (h3 : (x.els != y.els) = false) : shapeB x y = true := by
  unfold shapeB; rw [bne_eq' h1, bne_eq' h2, bne_eq' h3]; simp
theorem vcheck_no1 {old new : BFunc} {c : Cert} (h : vshaped old new = false) : vcheck old new c = false := by unfold vcheck; rw [h]; rfl
theorem vcheck_no2 {old new : BFunc} {c : Cert} (h : ((((c.same.map fun r => [boolsAV r]).length : Nat) : Int) != (((old.blocks.map Block.cells).length : Nat) : Int)) = true) : vcheck old new c = false := by
  unfold vcheck
  rw [decide_eq_false (fun e => by rw [List.length_map, List.length_map, e] at h; simp at h : ¬ c.same.length = old.blocks.length)]
  simp
theorem cert_len {old : BFunc} {c : Cert} (h : ((((c.same.map fun r => [boolsAV r]).length : Nat) : Int) != (((old.blocks.map Block.cells).length : Nat) : Int)) = false) : c.same.length = old.blocks.length := by
  rw [List.length_map, List.length_map] at h
  have := bne_eq' h
  omega
theorem vcheck_no3 {old new : BFunc} {c : Cert} {k : Nat} {r : List Bool} (hr : c.same[k]? = some r) (h : ¬ (r.length : Int) = old.regs) : vcheck old new c = false := by
  unfold vcheck
  rw [all_bad hr (p := fun r : List Bool => decide ((r.length : Int) = old.regs)) (decide_eq_false h)]
  simp
theorem vcheck_no4 {old new : BFunc} {c : Cert} {k : Nat} {x y : Block} (hx : old.blocks[k]? = some x) (hy : new.blocks[k]? = some y) (h : vsame old.regs.toNat x y c (k : Int) x.nexts = false) : vcheck old new c = false := by
  unfold vcheck vblocks
  rw [all_bad (zipIdx_get (zip_at hx hy)) (p := fun p : (Block × Block) × Nat => vsame old.regs.toNat p.1.1 p.1.2 c (p.2 : Int) p.1.1.nexts) h]
  simp
theorem vcheck_yes {old new : BFunc} {c : Cert} (h1 : vshaped old new = true) (h2 : c.same.length = old.blocks.length) (h3 : (c.same.all fun r => decide ((r.length : Int) = old.regs)) = true) (h4 : vblocks old new c = true) : vcheck old new c = true := by
  unfold vcheck
  rw [h1, decide_eq_true h2, h3, h4]; rfl
structure VShape (old new : BFunc) : Prop where
  regs : old.regs = new.regs
  len : old.blocks.length = new.blocks.length
  so : old.stands = true
  sn : new.stands = true
  b : ∀ (k : Nat) (x y : Block), old.blocks[k]? = some x → new.blocks[k]? = some y → x.fin = y.fin ∧ x.to = y.to ∧ x.els = y.els
theorem vshaped_of {old new : BFunc} (h : vshaped old new = true) : VShape old new := by
  simp only [vshaped, Bool.and_eq_true, decide_eq_true_eq, List.all_eq_true] at h
  refine ⟨h.1, h.2.1, h.2.2.1, h.2.2.2.1, fun k x y hx hy => ?_⟩
  have := h.2.2.2.2 (x, y) (List.mem_of_getElem? (zip_at hx hy))
  simpa [shapeB] using this
end Go.Proofs.Ytpijoieooikfgaa.Sv

namespace Go.Proofs.Ytpijoieooikfgaa.Sv
open Go
section
variable {P : Program} {T : Nat → Option TyI} {o : Oper} {e : AEnv} {h : AHeap}
theorem places_run (hT : TOk P T) {w : World} : ∀ {fl : List Field}, (∀ f ∈ fl, ∃ i', T f.type = some i') →
    ∃ l : List (Nat × Nat), (fl.mapM fun f => (do pure (f.offset, ← sizeOf f.type) : Sem (Nat × Nat))).run P w = .ok l w ∧ ∀ (i off t : Nat), (fl.map fun f => (f.offset, f.type))[i]? = some (off, t) → ∃ i', T t = some i' ∧ l[i]? = some (off, i'.size)
  | [], _ => ⟨[], by simp, fun i off t h => by simp at h⟩
  | f :: fl, hk => by
    obtain ⟨l, h1, h2⟩ := places_run hT (w := w) (fl := fl) (fun g hg => hk g (by simp [hg]))
    obtain ⟨i', hi'⟩ := hk f (by simp)
    obtain ⟨info', d', c1, c2, c3, c4, _⟩ := tyOf_spec (hT _ _ hi')
    refine ⟨(f.offset, i'.size) :: l, ?_, fun k off t h3 => ?_⟩
    · rw [List.mapM_cons]
      simp only [Sem.run_bind, run_isz c1, Result.andThen_ok, Sem.run_pure, h1, c4]
    · cases k with
      | zero => simp at h3; obtain ⟨rfl, rfl⟩ := h3; exact ⟨i', hi', rfl⟩
      | succ k => simp only [List.map_cons, List.getElem?_cons_succ] at h3 ⊢; exact h2 k off t h3
theorem one_cell {H : Know} {ι : Lay} {x : AV} {v : Value} (h : Rel H ι x v) (hc : x.cell1 = true) : ∃ u, v.cells = #[u] ∧ Rel H ι x u := by
  obtain ⟨c1, c2⟩ := cells_rel h
  have hx : x.cells = [x] := by cases x <;> first | rfl | cases hc
  rw [hx] at c1 c2
  have hs : v.cells.size = 1 := by simpa using c1.symm
  obtain ⟨u, hu⟩ := getElem?_some_of_lt (c := v.cells) (j := 0) (by omega)
  refine ⟨u, ?_, c2 0 x u rfl hu⟩
  apply Array.ext
  · simp [hs]
  · intro j h1 h2
    have : j = 0 := by omega
    subst this
    rw [Array.getElem?_eq_getElem h1] at hu
    simpa using hu
theorem q_buildM (hT : TOk P T) {t : TypeId} {parts : Array (Nat × Operand)} {i i0 i1 i2 : TyI} {x y : AV} {t0 t1 t2 : Nat} {z0 z1 : Value} (ho : o.op = .build t parts) (hx : lookParts e parts.toList = some [(0, x), (1, y)]) (hi : T t = some i) (hk : i.k = .struct [(0, t0), (1, t1), (2, t2)])
    (h0 : T t0 = some i0) (h1 : T t1 = some i1) (h2 : T t2 = some i2) (s0 : i0.size = 1) (s1 : i1.size = 1) (hz : (P.info? t).bind (·.zero) = some (.agg #[z0, z1, .slice none 0 0])) (hx1 : x.cell1 = true) (hy1 : y.cell1 = true) : QLoc P o e h [] (.agg [x, y, .nil]) := by
  intro H ι a w s hs g1 g2
  have hx' : lookParts s.env parts.toList = some [(0, x), (1, y)] := by
    rw [lookParts_agree (e := e) (fun x hx => g1 x (by rw [ho]; simp only [Op.operands, List.mem_toArray]; exact hx))]; exact hx
  obtain ⟨l1, l2⟩ := lookParts_rel hs hx'
  obtain ⟨info, d, e1, e2, e3, e4, e5, e6⟩ := tyOf_spec (hT _ _ hi)
  obtain ⟨A, rfl, hA, hzz⟩ := tk_struct (P := P) (d := d) (e3 ▸ hk)
  have hzv : info.zero = some (.agg #[z0, z1, .slice none 0 0]) := by rw [e1] at hz; exact hz
  obtain ⟨l, k1, k2⟩ := places_run hT (w := w) (fl := A.toList) (fun f hf => by
    have hm : (f.offset, f.type) ∈ A.toList.map fun f => (f.offset, f.type) := List.mem_map.2 ⟨f, hf, rfl⟩
    rw [← hA] at hm
    simp only [List.mem_cons, Prod.mk.injEq, List.not_mem_nil, or_false] at hm
    rcases hm with ⟨_, q⟩ | ⟨_, q⟩ | ⟨_, q⟩ <;> rw [q]
    · exact ⟨_, h0⟩
    · exact ⟨_, h1⟩
    · exact ⟨_, h2⟩)
  have hpl : (A.mapM fun f => (do pure (f.offset, ← sizeOf f.type) : Sem (Nat × Nat))).run P w = .ok l.toArray w := by
    rw [Array.mapM_eq_mapM_toList]
    simp only [Sem.run_map, k1]
    rfl
  obtain ⟨j0, q0, p0⟩ := k2 0 0 t0 (by rw [← hA]; rfl)
  obtain ⟨j1, q1, p1⟩ := k2 1 1 t1 (by rw [← hA]; rfl)
  rw [h0] at q0; cases q0
  rw [h1] at q1; cases q1
  rw [s0] at p0
  rw [s1] at p1
  generalize hpp : parts.toList = pl at l1 l2 hx'
  match pl, l1 with
  | [(n0, x0), (n1, x1)], _ =>
    obtain ⟨a1, a2⟩ := l2 0 (0, x) (n0, a.eval x0) rfl rfl
    obtain ⟨b1, b2⟩ := l2 1 (1, y) (n1, a.eval x1) rfl rfl
    simp only at a1 a2 b1 b2
    subst a1; subst b1
    obtain ⟨u0, c0, d0⟩ := one_cell a2 hx1
    obtain ⟨u1, c1, d1⟩ := one_cell b2 hy1
    have hfill : Instr.fill (l.toArray[·]?) #[z0, z1, .slice none 0 0] [(0, a.eval x0), (1, a.eval x1)] = some #[u0, u1, .slice none 0 0] := by
      simp [Instr.fill, p0, p1, c0, c1]
    have hparts : (parts.map fun (i, x) => (i, a.eval x)).toList = [(0, a.eval x0), (1, a.eval x1)] := by simp [hpp]
    refine ⟨.agg #[u0, u1, .slice none 0 0], .agg _ _ _ rfl (fun j z v hz hv => ?_), ?_⟩
    · match j, hz, hv with
      | 0, hz, hv => simp at hz hv; subst hz; subst hv; exact d0
      | 1, hz, hv => simp at hz hv; subst hz; subst hv; exact d1
      | 2, hz, hv => simp at hz hv; subst hz; subst hv; exact .nil _
      | j + 3, hz, hv => simp at hz
    · simp only [execOp, ho, Instr.build, zeroValue, typeInfo, Sem.run_bind, run_program, Result.andThen_ok, e1, hzv, Sem.run_pure, run_underlying' e2, hpl, hparts, Value.cells, hfill]
theorem q_indexV2 (hT : TOk P T) {t : TypeId} {x y : Operand} {b : Nat} {es es' : List (List AV)} {k : IntKind} {n : Int} {i j : TyI} {u : Nat} (ho : o.op = .indexAddr t x y) (hx : look e x = some (vaA b es')) (hy : look e y = some (.int k n))
    (hi : T t = some i) (hk : i.k = .slice u) (hj : T u = some j) (hb : h b = some (vaO es)) (hsz : 1 = j.size) (hl : es.length = es'.length) (h0 : 0 ≤ n) (hn : n < es.length) : QLoc P o e h [b] (.ptr b es.length n.toNat 0) :=
  q_indexV hT ho (by rw [hx, vaA_len hl]) hy hi hk hj hb hsz h0 hn
end
end Go.Proofs.Ytpijoieooikfgaa.Sv

namespace Go.Proofs.Ytpijoieooikfgaa.Sv
open Go
structure RVal where
  kind : Int
  op : Int
  a : Int
  b : Int
  name : Int
  side : Int
  base : Int
  time : Int
  n : Int
  deriving DecidableEq
def RVal.cells (v : RVal) : List AV := [.int .i64 v.kind, .int .i64 v.op, .int .i64 v.a, .int .i64 v.b, .int .i64 v.name, .int .i64 v.side, .int .i64 v.base, .int .i64 v.time, .int .u32 v.n]
def RVal.same (x y : RVal) : Bool := x.kind == y.kind && (x.op == y.op && (x.a == y.a && (x.b == y.b && (x.name == y.name && (x.side == y.side && (x.base == y.base && (x.time == y.time && (x.n == y.n && true))))))))
theorem RVal.same_iff (x y : RVal) : x.same y = true ↔ x = y := by
  obtain ⟨a1, a2, a3, a4, a5, a6, a7, a8, a9⟩ := x
  obtain ⟨b1, b2, b3, b4, b5, b6, b7, b8, b9⟩ := y
  simp [RVal.same, RVal.mk.injEq]
structure REff where
  op : Int
  k : Int
  base : Int
  size : Int
  a : Int
  b : Int
  deriving DecidableEq
def REff.cells (v : REff) : List AV := [.int .i64 v.op, .int .i64 v.k, .int .i64 v.base, .int .i64 v.size, .int .i64 v.a, .int .i64 v.b]
def REff.same (x y : REff) : Bool := x.op == y.op && (x.k == y.k && (x.base == y.base && (x.size == y.size && (x.a == y.a && (x.b == y.b && true)))))
theorem REff.same_iff (x y : REff) : x.same y = true ↔ x = y := by
  obtain ⟨a1, a2, a3, a4, a5, a6⟩ := x
  obtain ⟨b1, b2, b3, b4, b5, b6⟩ := y
  simp [REff.same, REff.mk.injEq]
def ridx (v : RVal) : List RVal → Option Nat
  | [] => none
  | x :: r => bif x.same v then some 0 else (ridx v r).map (· + 1)
def rnum (L : List RVal) (v : RVal) : Int × List RVal := match ridx v L with
  | some i => ((i : Int), L)
  | none => ((L.length : Int), L ++ [v])
theorem ridx_lt {v : RVal} : ∀ {L : List RVal} {i : Nat}, ridx v L = some i → i < L.length ∧ L[i]? = some v
  | [], i, h => by cases h
  | x :: r, i, h => by
    unfold ridx at h
    cases hx : x.same v with
    | true => rw [hx] at h; cases h; exact ⟨by simp, by rw [(RVal.same_iff x v).1 hx]; rfl⟩
    | false =>
      rw [hx] at h
      simp only [cond_false, Option.map_eq_some_iff] at h
      obtain ⟨j, hj, rfl⟩ := h
      obtain ⟨h1, h2⟩ := ridx_lt hj
      exact ⟨by simp; omega, by simpa using h2⟩
theorem rnum_new {v : RVal} {L : List RVal} (h : ridx v L = none) : rnum L v = ((L.length : Int), L ++ [v]) := by unfold rnum; rw [h]
theorem rnum_old {v : RVal} {L : List RVal} {i : Nat} (h : ridx v L = some i) : rnum L v = ((i : Int), L) := by unfold rnum; rw [h]
theorem rnum_ok {v : RVal} {L : List RVal} : L.length ≤ (rnum L v).2.length ∧ (rnum L v).2.length ≤ L.length + 1 ∧ 0 ≤ (rnum L v).1 ∧ (rnum L v).1 < (rnum L v).2.length := by
  cases e : ridx v L with
  | none => rw [rnum_new e]; simp; omega
  | some i =>
    rw [rnum_old e]
    have := (ridx_lt e).1
    exact ⟨Nat.le_refl _, Nat.le_succ _, by dsimp only; omega, by dsimp only; omega⟩
def rval (L : List RVal) (i : Int) : RVal := (L[i.toNat]?).getD ⟨0, 0, 0, 0, 0, 0, 0, 0, 0⟩
def rconst (L : List RVal) (i : Int) : Int × Bool := ((rval L i).n, (rval L i).kind == 1)
theorem rval_n {L : List RVal} (hL : ∀ v ∈ L, isW v.n) (i : Int) : isW (rval L i).n := by
  unfold rval
  cases e : L[i.toNat]? with
  | none => exact isW_zero
  | some v => exact hL v (List.mem_of_getElem? e)
structure RW where
  L : List RVal
  regs : List Int
  out : List REff
  time : Int
def RW.put (w : RW) (z : Int) (p : Int × List RVal) : RW := { w with L := p.2, regs := rset w.regs z p.1 }
def RW.eff (w : RW) (e : REff) : RW := { w with out := w.out ++ [e] }
def RW.tick (w : RW) : RW := { w with time := w.time + 1 }
def rrisky (w : RW) (t : Tac) : Bool := (t.k == 7 || t.k == 8) && (!(rconst w.L (rget w.regs t.b)).2 || (rconst w.L (rget w.regs t.b)).1 == 0)
def RW.div (w : RW) (t : Tac) : RW := bif rrisky w t then w.eff ⟨t.op, t.k, 0, 0, rget w.regs t.a, rget w.regs t.b⟩ else w
def rfold (w : RW) (t : Tac) : Bool := (rconst w.L (rget w.regs t.a)).2 && ((rconst w.L (rget w.regs t.b)).2 && !rrisky w t)
def rapplyV (w : RW) (t : Tac) : RVal := bif rfold w t then ⟨1, 0, 0, 0, 0, 0, 0, 0, (wapp t.k (rconst w.L (rget w.regs t.a)).1 (rconst w.L (rget w.regs t.b)).1).1⟩ else ⟨3, t.k, rget w.regs t.a, rget w.regs t.b, 0, 0, 0, 0, 0⟩
def RW.bin (w : RW) (t : Tac) : RW := (w.div t).put t.d (rnum w.L (rapplyV w t))
def runkV (n : Nat) : RVal := ⟨2, 0, 0, 0, (n : Int), 2, 0, 0, 0⟩
def RW.get (w : RW) (t : Tac) (e : REff) : RW := (w.eff e).put t.d (rnum w.L (runkV w.out.length))
def RW.step (w : RW) (t : Tac) : RW :=
  bif t.op == 1 then w.put t.d (rnum w.L ⟨1, 0, 0, 0, 0, 0, 0, 0, t.n⟩)
  else bif t.op == 2 then { w with regs := rset w.regs t.d (rget w.regs t.a) }
  else bif t.op == 3 then w.bin t
  else bif t.op == 4 then w.put t.d (rnum w.L ⟨4, 0, 0, 0, 0, 0, t.base, w.time, 0⟩)
  else bif t.op == 5 then (w.eff ⟨t.op, 0, t.base, 0, rget w.regs t.a, 0⟩).tick
  else bif t.op == 6 then w.get t ⟨t.op, 0, t.base, t.size, rget w.regs t.a, 0⟩
  else bif t.op == 7 then (w.eff ⟨t.op, 0, t.base, t.size, rget w.regs t.a, rget w.regs t.b⟩).tick
  else bif t.op == 8 then w.get t ⟨t.op, 0, 0, 0, 0, 0⟩
  else bif t.op == 9 then w.eff ⟨t.op, 0, 0, 0, rget w.regs t.a, 0⟩
  else (w.eff ⟨t.op, 0, t.base, 0, 0, 0⟩).tick
structure ROk (R m : Nat) (w : RW) : Prop where
  wn : ∀ v ∈ w.L, isW v.n
  kl : w.L.length ≤ m
  el : w.out.length ≤ m
  tl : 0 ≤ w.time ∧ w.time ≤ m
  vl : w.regs.length = R
  v : ∀ n ∈ w.regs, 0 ≤ n ∧ n < w.L.length
theorem ROk.mono {R m m' : Nat} {w : RW} (h : ROk R m w) (hm : m ≤ m') : ROk R m' w :=
  ⟨h.wn, Nat.le_trans h.kl hm, Nat.le_trans h.el hm, ⟨h.tl.1, by have := h.tl.2; omega⟩, h.vl, h.v⟩
theorem rnum_w {v : RVal} {L : List RVal} (hL : ∀ v ∈ L, isW v.n) (hv : isW v.n) : ∀ x ∈ (rnum L v).2, isW x.n := by
  cases e : ridx v L with
  | none =>
    rw [rnum_new e]
    intro x hx
    simp only [List.mem_append, List.mem_singleton] at hx
    rcases hx with hx | rfl
    · exact hL x hx
    · exact hv
  | some i => rw [rnum_old e]; exact hL
theorem ROk.put {R m : Nat} {w : RW} (h : ROk R m w) (z : Int) {v : RVal} (hv : isW v.n) : ROk R (m + 1) (w.put z (rnum w.L v)) where
  wn := rnum_w h.wn hv
  kl := by have := h.kl; have := (rnum_ok (v := v) (L := w.L)).2.1; show (rnum w.L v).2.length ≤ _; omega
  el := by have := h.el; show w.out.length ≤ _; omega
  tl := ⟨h.tl.1, by have := h.tl.2; show w.time ≤ _; omega⟩
  vl := by show (rset w.regs z _).length = R; rw [rset_length]; exact h.vl
  v := fun n hn => by
    have hn' : n ∈ rset w.regs z (rnum w.L v).1 := hn
    unfold rset at hn'
    show 0 ≤ n ∧ n < ((rnum w.L v).2.length : Int)
    have hp := rnum_ok (v := v) (L := w.L)
    rcases List.mem_or_eq_of_mem_set hn' with hn' | rfl
    · have := h.v n hn'; omega
    · exact hp.2.2
theorem ROk.eff {R m : Nat} {w : RW} (h : ROk R m w) (e : REff) : ROk R (m + 1) (w.eff e) where
  wn := h.wn
  kl := by have := h.kl; show w.L.length ≤ _; omega
  el := by have := h.el; show (w.out ++ [e]).length ≤ _; simp; omega
  tl := ⟨h.tl.1, by have := h.tl.2; show w.time ≤ _; omega⟩
  vl := h.vl
  v := h.v
theorem ROk.tick {R m : Nat} {w : RW} (h : ROk R m w) : ROk R (m + 1) w.tick where
  wn := h.wn
  kl := by have := h.kl; show w.L.length ≤ _; omega
  el := by have := h.el; show w.out.length ≤ _; omega
  tl := ⟨by have := h.tl.1; show 0 ≤ w.time + 1; omega, by have := h.tl.2; show w.time + 1 ≤ _; push_cast; omega⟩
  vl := h.vl
  v := h.v
theorem ROk.div {R m : Nat} {w : RW} (h : ROk R m w) (t : Tac) : ROk R (m + 1) (w.div t) := by
  unfold RW.div
  cases rrisky w t with
  | true => exact h.eff _
  | false => exact h.mono (Nat.le_succ _)
theorem rdiv_L (w : RW) (t : Tac) : (w.div t).L = w.L := by unfold RW.div; cases rrisky w t <;> rfl
theorem rapplyV_w {w : RW} (hL : ∀ v ∈ w.L, isW v.n) (t : Tac) : isW (rapplyV w t).n := by
  unfold rapplyV
  cases rfold w t with
  | true => exact wapp_word (rval_n hL _) (rval_n hL _)
  | false => exact isW_zero
theorem ROk.at {R m : Nat} {w : RW} (h : ROk R m w) {z : Int} (hz : 0 ≤ z ∧ z < R) : 0 ≤ z ∧ z < w.regs.length ∧ z < ((valC w.regs).length : Int) ∧ 0 ≤ rget w.regs z ∧ rget w.regs z < w.L.length := by
  have h1 := h.vl
  have h2 := h.v _ (rget_in (z := z) (by rw [h1]; exact hz))
  rw [valC_len, h1]
  exact ⟨hz.1, hz.2, hz.2, h2.1, h2.2⟩
theorem ROk.bin {R m : Nat} {w : RW} (h : ROk R m w) (t : Tac) : ROk R (m + 2) (w.bin t) := by
  have h1 := (h.div t).put t.d (rapplyV_w h.wn t)
  rw [rdiv_L] at h1
  exact h1
theorem ROk.get {R m : Nat} {w : RW} (h : ROk R m w) (t : Tac) (e : REff) : ROk R (m + 2) (w.get t e) := ROk.put (h.eff e) t.d (v := runkV w.out.length) isW_zero
theorem ROk.step {R m : Nat} {w : RW} (h : ROk R m w) {t : Tac} (ht : TacV t R) : ROk R (m + 2) (w.step t) := by
  unfold RW.step
  cases t.op == 1 with
  | true => exact (h.put _ ht.n).mono (Nat.le_succ _)
  | false =>
  cases h2 : t.op == 2 with
  | true =>
    have h2' : t.op = 2 := by simpa using h2
    refine ROk.mono (m := m) ⟨h.wn, h.kl, h.el, h.tl, ?_, fun n hn => ?_⟩ (by omega)
    · show (rset w.regs t.d _).length = R; rw [rset_length]; exact h.vl
    · have hn' : n ∈ rset w.regs t.d (rget w.regs t.a) := hn
      unfold rset at hn'
      rcases List.mem_or_eq_of_mem_set hn' with hn' | rfl
      · exact h.v n hn'
      · have := ht.a (.inl (by simp [use1, h2']))
        exact h.v _ (rget_in (by rw [h.vl]; exact this))
  | false =>
  cases t.op == 3 with
  | true => exact h.bin t
  | false =>
  cases t.op == 4 with
  | true => exact (h.put _ (v := ⟨4, 0, 0, 0, 0, 0, _, _, 0⟩) isW_zero).mono (Nat.le_succ _)
  | false =>
  cases t.op == 5 with
  | true => exact ROk.tick (h.eff _)
  | false =>
  cases t.op == 6 with
  | true => exact h.get t _
  | false =>
  cases t.op == 7 with
  | true => exact ROk.tick (h.eff _)
  | false =>
  cases t.op == 8 with
  | true => exact h.get t _
  | false =>
  cases t.op == 9 with
  | true => exact (h.eff _).mono (Nat.le_succ _)
  | false => exact ROk.tick (h.eff _)
section
variable {P : Program} {T : Nat → Option TyI} {o : Oper} {e : AEnv} {h : AHeap}
end
theorem rapplyV_c {w : RW} {t : Tac} (h : rfold w t = true) : rapplyV w t = ⟨1, 0, 0, 0, 0, 0, 0, 0, (wapp t.k (rconst w.L (rget w.regs t.a)).1 (rconst w.L (rget w.regs t.b)).1).1⟩ := by unfold rapplyV; rw [h]; rfl
theorem rapplyV_o {w : RW} {t : Tac} (h : rfold w t = false) : rapplyV w t = ⟨3, t.k, rget w.regs t.a, rget w.regs t.b, 0, 0, 0, 0, 0⟩ := by unfold rapplyV; rw [h]; rfl
end Go.Proofs.Ytpijoieooikfgaa.Sv

namespace Go.Proofs.Ytpijoieooikfgaa.Sv
open Go
structure RI where
  L : List RVal
  xs : List Int
  ys : List Int
def RVal.reg (v : Nat) (side : Int) : RVal := ⟨2, 0, 0, 0, (v : Int), side, 0, 0, 0⟩
def sideR (row : List Bool) (v : Nat) : Int := bif (row[v]?).getD false then 0 else 1
def RI.first (s : RI) (v : Nat) : RI := ⟨(rnum s.L (RVal.reg v 0)).2, s.xs ++ [(rnum s.L (RVal.reg v 0)).1], s.ys⟩
def RI.second (s : RI) (v : Nat) (side : Int) : RI := ⟨(rnum s.L (RVal.reg v side)).2, s.xs, s.ys ++ [(rnum s.L (RVal.reg v side)).1]⟩
def rinit (row : List Bool) : Nat → RI
  | 0 => ⟨[], [], []⟩
  | v + 1 => ((rinit row v).first v).second v (sideR row v)
structure RIok (s : RI) (k : Nat) : Prop where
  wn : ∀ v ∈ s.L, isW v.n
  kl : s.L.length ≤ 2 * k
  xl : s.xs.length = k
  yl : s.ys.length = k
  xv : ∀ n ∈ s.xs, 0 ≤ n ∧ n < s.L.length
  yv : ∀ n ∈ s.ys, 0 ≤ n ∧ n < s.L.length
def rrun (L : List RVal) (regs : List Int) (l : List Tac) : RW := l.foldl RW.step ⟨L, regs, [], 0⟩
def rrunA (R : Nat) (row : List Bool) (old : Block) : RW := rrun (rinit row R).L (rinit row R).xs old.ins
def rrunB (R : Nat) (row : List Bool) (old new : Block) : RW := rrun (rrunA R row old).L (rinit row R).ys new.ins
def RW.vw (w : RW) : VW := ⟨[], w.regs, [], 0⟩
def rsame (R : Nat) (old new : Block) (c : Cert) (i : Int) (next : List Int) : Bool :=
  decide ((rrunA R (c.at' i) old).out = (rrunB R (c.at' i) old new).out) && ((!(old.fin == 2) || rget (rrunA R (c.at' i) old).regs old.v == rget (rrunB R (c.at' i) old new).regs new.v) && next.all fun k => vagree (rrunA R (c.at' i) old).vw (rrunB R (c.at' i) old new).vw (c.at' k))
def rblocks (old new : BFunc) (c : Cert) : Bool := (old.blocks.zip new.blocks).zipIdx.all fun p => rsame old.regs.toNat p.1.1 p.1.2 c (p.2 : Int) p.1.1.nexts
def rsized (f : BFunc) (c : Cert) : Bool := decide (c.same.length = f.blocks.length) && c.same.all fun r => decide ((r.length : Int) = f.regs)
def rcheck (old new : BFunc) (c : Cert) : Bool := vshaped old new && (rsized old c && rblocks old new c)
section
variable {R : Nat} {old new : Block} {c : Cert} {i : Int} {next : List Int}
end
section
variable {P : Program} {T : Nat → Option TyI} {h : AHeap}
end
theorem rstep1 {w : RW} {t : Tac} (ho : t.op = 1) : w.step t = w.put t.d (rnum w.L ⟨1, 0, 0, 0, 0, 0, 0, 0, t.n⟩) := by
  unfold RW.step
  rw [ho]; rfl
theorem rstep2 {w : RW} {t : Tac} (ho : t.op = 2) : w.step t = { w with regs := rset w.regs t.d (rget w.regs t.a) } := by
  unfold RW.step
  rw [ho]; rfl
theorem rstep3 {w : RW} {t : Tac} (ho : t.op = 3) : w.step t = w.bin t := by
  unfold RW.step
  rw [ho]; rfl
theorem rstep4 {w : RW} {t : Tac} (ho : t.op = 4) : w.step t = w.put t.d (rnum w.L ⟨4, 0, 0, 0, 0, 0, t.base, w.time, 0⟩) := by
  unfold RW.step
  rw [ho]; rfl
theorem rstep5 {w : RW} {t : Tac} (ho : t.op = 5) : w.step t = (w.eff ⟨t.op, 0, t.base, 0, rget w.regs t.a, 0⟩).tick := by
  unfold RW.step
  rw [ho]; rfl
theorem rstep6 {w : RW} {t : Tac} (ho : t.op = 6) : w.step t = w.get t ⟨t.op, 0, t.base, t.size, rget w.regs t.a, 0⟩ := by
  unfold RW.step
  rw [ho]; rfl
theorem rstep7 {w : RW} {t : Tac} (ho : t.op = 7) : w.step t = (w.eff ⟨t.op, 0, t.base, t.size, rget w.regs t.a, rget w.regs t.b⟩).tick := by
  unfold RW.step
  rw [ho]; rfl
theorem rstep8 {w : RW} {t : Tac} (ho : t.op = 8) : w.step t = w.get t ⟨t.op, 0, 0, 0, 0, 0⟩ := by
  unfold RW.step
  rw [ho]; rfl
theorem rstep9 {w : RW} {t : Tac} (ho : t.op = 9) : w.step t = w.eff ⟨t.op, 0, 0, 0, rget w.regs t.a, 0⟩ := by
  unfold RW.step
  rw [ho]; rfl
theorem rstep0 {w : RW} {t : Tac} (h1 : (t.op == 1) = false) (h2 : (t.op == 2) = false) (h3 : (t.op == 3) = false) (h4 : (t.op == 4) = false) (h5 : (t.op == 5) = false) (h6 : (t.op == 6) = false) (h7 : (t.op == 7) = false) (h8 : (t.op == 8) = false) (h9 : (t.op == 9) = false) : w.step t = (w.eff ⟨t.op, 0, t.base, 0, 0, 0⟩).tick := by
  unfold RW.step
  rw [h1, h2, h3, h4, h5, h6, h7, h8, h9]; rfl
end Go.Proofs.Ytpijoieooikfgaa.Sv

namespace Go.Proofs.Ytpijoieooikfgaa.Sv
open Go
inductive Tm where
  | old (v : Nat)
  | own (v : Nat)
  | cst (n : Int)
  | op (k : Int) (a b : Tm)
  | ld (base time : Int)
  | unk (n : Nat)
  deriving DecidableEq
structure SE where
  risk : Bool
  op : Int
  k : Int
  base : Int
  size : Int
  a : Option Tm
  b : Option Tm
  deriving DecidableEq
structure SS where
  regs : List Tm
  effs : List SE
  time : Int
def tget (l : List Tm) (z : Int) : Tm := (l[z.toNat]?).getD (.cst 0)
def tset (l : List Tm) (z : Int) (t : Tm) : List Tm := l.set z.toNat t
def Tm.isZero : Tm → Bool
  | .cst n => n == 0
  | _ => true
def trisky (k : Int) (b : Tm) : Bool := (k == 7 || k == 8) && b.isZero
def tfold (k : Int) (a b : Tm) : Tm := match a, b with
  | .cst x, .cst y => bif trisky k (.cst y) then .op k a b else .cst (wapp k x y).1
  | _, _ => .op k a b
def SS.put (s : SS) (z : Int) (t : Tm) : SS := { s with regs := tset s.regs z t }
def SS.eff (s : SS) (e : SE) : SS := { s with effs := s.effs ++ [e] }
def SS.tick (s : SS) : SS := { s with time := s.time + 1 }
def SS.div (s : SS) (t : Tac) : SS := bif trisky t.k (tget s.regs t.b) then s.eff ⟨true, 3, t.k, 0, 0, some (tget s.regs t.a), some (tget s.regs t.b)⟩ else s
def SS.bin (s : SS) (t : Tac) : SS := (s.div t).put t.d (tfold t.k (tget s.regs t.a) (tget s.regs t.b))
def SS.get (s : SS) (t : Tac) (e : SE) : SS := (s.eff e).put t.d (.unk s.effs.length)
def SS.step (s : SS) (t : Tac) : SS :=
  bif t.op == 1 then s.put t.d (.cst t.n)
  else bif t.op == 2 then s.put t.d (tget s.regs t.a)
  else bif t.op == 3 then s.bin t
  else bif t.op == 4 then s.put t.d (.ld t.base s.time)
  else bif t.op == 5 then (s.eff ⟨false, 5, 0, t.base, 0, some (tget s.regs t.a), none⟩).tick
  else bif t.op == 6 then s.get t ⟨false, 6, 0, t.base, t.size, some (tget s.regs t.a), none⟩
  else bif t.op == 7 then (s.eff ⟨false, 7, 0, t.base, t.size, some (tget s.regs t.a), some (tget s.regs t.b)⟩).tick
  else bif t.op == 8 then s.get t ⟨false, 8, 0, 0, 0, none, none⟩
  else bif t.op == 9 then s.eff ⟨false, 9, 0, 0, 0, some (tget s.regs t.a), none⟩
  else (s.eff ⟨false, 10, 0, t.base, 0, none, none⟩).tick
structure TacT (t : Tac) (R : Nat) : Prop extends TacV t R where
  op : 1 ≤ t.op ∧ t.op ≤ 10
  k : t.op = 3 → 4 ≤ t.k ∧ t.k ≤ 15
  want : t = t.want
def SE.wf (e : SE) : Prop := (e.risk = true ∧ e.op = 3 ∧ e.base = 0 ∧ e.size = 0 ∧ e.a.isSome ∧ e.b.isSome) ∨
  (e.risk = false ∧ e.k = 0 ∧ (e.op = 5 ∧ e.size = 0 ∧ e.a.isSome ∧ e.b = none ∨ e.op = 6 ∧ e.a.isSome ∧ e.b = none ∨ e.op = 7 ∧ e.a.isSome ∧ e.b.isSome ∨ e.op = 8 ∧ e.base = 0 ∧ e.size = 0 ∧ e.a = none ∧ e.b = none ∨ e.op = 9 ∧ e.base = 0 ∧ e.size = 0 ∧ e.a.isSome ∧ e.b = none ∨ e.op = 10 ∧ e.size = 0 ∧ e.a = none ∧ e.b = none))
theorem SS.step_wf {s : SS} (h : ∀ e ∈ s.effs, e.wf) (t : Tac) : ∀ e ∈ (s.step t).effs, e.wf := by
  have hap : ∀ e : SE, e.wf → ∀ x ∈ s.effs ++ [e], x.wf := fun e he x hx => by
    simp only [List.mem_append, List.mem_singleton] at hx
    rcases hx with hx | rfl
    · exact h x hx
    · exact he
  unfold SS.step
  cases t.op == 1 with
  | true => exact h
  | false =>
  cases t.op == 2 with
  | true => exact h
  | false =>
  cases t.op == 3 with
  | true =>
    show ∀ e ∈ (s.div t).effs, e.wf
    unfold SS.div
    cases trisky t.k (tget s.regs t.b) with
    | true => exact hap _ (.inl ⟨rfl, rfl, rfl, rfl, rfl, rfl⟩)
    | false => exact h
  | false =>
  cases t.op == 4 with
  | true => exact h
  | false =>
  cases t.op == 5 with
  | true => exact hap _ (.inr ⟨rfl, rfl, .inl ⟨rfl, rfl, rfl, rfl⟩⟩)
  | false =>
  cases t.op == 6 with
  | true => exact hap _ (.inr ⟨rfl, rfl, .inr (.inl ⟨rfl, rfl, rfl⟩)⟩)
  | false =>
  cases t.op == 7 with
  | true => exact hap _ (.inr ⟨rfl, rfl, .inr (.inr (.inl ⟨rfl, rfl, rfl⟩))⟩)
  | false =>
  cases t.op == 8 with
  | true => exact hap _ (.inr ⟨rfl, rfl, .inr (.inr (.inr (.inl ⟨rfl, rfl, rfl, rfl, rfl⟩)))⟩)
  | false =>
  cases t.op == 9 with
  | true => exact hap _ (.inr ⟨rfl, rfl, .inr (.inr (.inr (.inr (.inl ⟨rfl, rfl, rfl, rfl, rfl⟩))))⟩)
  | false => exact hap _ (.inr ⟨rfl, rfl, .inr (.inr (.inr (.inr (.inr ⟨rfl, rfl, rfl, rfl⟩))))⟩)
theorem SS.step_len (s : SS) (t : Tac) : (s.step t).regs.length = s.regs.length := by
  unfold SS.step
  cases t.op == 1 with
  | true => simp [SS.put, tset]
  | false =>
  cases t.op == 2 with
  | true => simp [SS.put, tset]
  | false =>
  cases t.op == 3 with
  | true => simp only [cond_true, cond_false, SS.bin, SS.put, tset, List.length_set, SS.div]; cases trisky t.k (tget s.regs t.b) <;> rfl
  | false =>
  cases t.op == 4 with
  | true => simp [SS.put, tset]
  | false =>
  cases t.op == 5 with
  | true => rfl
  | false =>
  cases t.op == 6 with
  | true => simp [SS.get, SS.put, SS.eff, tset]
  | false =>
  cases t.op == 7 with
  | true => rfl
  | false =>
  cases t.op == 8 with
  | true => simp [SS.get, SS.put, SS.eff, tset]
  | false =>
  cases t.op == 9 with
  | true => rfl
  | false => rfl
def All2 {α β : Type} (r : α → β → Prop) : List α → List β → Prop
  | [], [] => True
  | x :: xs, y :: ys => r x y ∧ All2 r xs ys
  | _, _ => False
theorem All2.len {α β : Type} {r : α → β → Prop} : ∀ {l : List α} {m : List β}, All2 r l m → l.length = m.length
  | [], [], _ => rfl
  | x :: xs, y :: ys, h => by simp [All2.len h.2]
  | [], y :: ys, h => h.elim
  | x :: xs, [], h => h.elim
theorem All2.mono {α β : Type} {r r' : α → β → Prop} (hr : ∀ x y, r x y → r' x y) : ∀ {l : List α} {m : List β}, All2 r l m → All2 r' l m
  | [], [], _ => trivial
  | x :: xs, y :: ys, h => ⟨hr _ _ h.1, All2.mono hr h.2⟩
  | [], y :: ys, h => h.elim
  | x :: xs, [], h => h.elim
theorem All2.snoc {α β : Type} {r : α → β → Prop} {x : α} {y : β} (hx : r x y) : ∀ {l : List α} {m : List β}, All2 r l m → All2 r (l ++ [x]) (m ++ [y])
  | [], [], _ => ⟨hx, trivial⟩
  | a :: l, b :: m, h => ⟨h.1, All2.snoc hx h.2⟩
  | [], b :: m, h => h.elim
  | a :: l, [], h => h.elim
theorem All2.get {α β : Type} {r : α → β → Prop} : ∀ {l : List α} {m : List β}, All2 r l m → ∀ {i : Nat} {x : α} {y : β}, l[i]? = some x → m[i]? = some y → r x y
  | [], [], _, i, x, y, h1, _ => by simp at h1
  | a :: l, b :: m, h, 0, x, y, h1, h2 => by simp at h1 h2; subst h1; subst h2; exact h.1
  | a :: l, b :: m, h, i + 1, x, y, h1, h2 => All2.get h.2 (by simpa using h1) (by simpa using h2)
  | [], b :: m, h, _, _, _, _, _ => h.elim
  | a :: l, [], h, _, _, _, _, _ => h.elim
theorem All2.set {α β : Type} {r : α → β → Prop} {x : α} {y : β} (hx : r x y) : ∀ {l : List α} {m : List β} (i : Nat), All2 r l m → All2 r (l.set i x) (m.set i y)
  | [], [], _, _ => trivial
  | a :: l, b :: m, 0, h => ⟨hx, h.2⟩
  | a :: l, b :: m, i + 1, h => ⟨h.1, All2.set hx i h.2⟩
  | [], b :: m, _, h => h.elim
  | a :: l, [], _, h => h.elim
theorem All2.iff {α β : Type} {r r' : α → β → Prop} {p : α → Prop} {q : α → Prop} (hf : ∀ x y y', p x → r x y → r' x y' → y = y') (hi : ∀ x x' y, p x → q x' → r x y → r' x' y → x = x') : ∀ {l l' : List α} {m m' : List β}, (∀ x ∈ l, p x) → (∀ x ∈ l', q x) → All2 r l m → All2 r' l' m' → (m = m' ↔ l = l')
  | [], [], [], [], _, _, _, _ => by simp
  | [], x :: l', [], y :: m', _, _, _, _ => by simp
  | x :: l, [], y :: m, [], _, _, _, _ => by simp
  | x :: l, x' :: l', y :: m, y' :: m', hp, hq, h, h' => by
    have ih := All2.iff hf hi (l := l) (l' := l') (m := m) (m' := m') (fun z hz => hp z (by simp [hz])) (fun z hz => hq z (by simp [hz])) h.2 h'.2
    rw [List.cons.injEq, List.cons.injEq, ih]
    constructor
    · rintro ⟨rfl, h2⟩
      exact ⟨hi x x' y (hp x (by simp)) (hq x' (by simp)) h.1 h'.1, h2⟩
    · rintro ⟨rfl, h2⟩
      exact ⟨hf x y y' (hp x (by simp)) h.1 h'.1, h2⟩
  | [], _, _ :: _, _, _, _, h, _ => h.elim
  | _ :: _, _, [], _, _, _, h, _ => h.elim
  | _, [], _, _ :: _, _, _, _, h => h.elim
  | _, _ :: _, _, [], _, _, _, h => h.elim
theorem nodup_inj {α : Type} {l : List α} (h : l.Nodup) {i j : Nat} {x : α} (hi : l[i]? = some x) (hj : l[j]? = some x) : i = j := by
  obtain ⟨h1, e1⟩ := List.getElem?_eq_some_iff.1 hi
  obtain ⟨h2, e2⟩ := List.getElem?_eq_some_iff.1 hj
  have hp := List.pairwise_iff_getElem.1 h
  rcases Nat.lt_trichotomy i j with hl | hl | hl
  · exact absurd (e1.trans e2.symm) (hp i j h1 h2 hl)
  · exact hl
  · exact absurd (e2.trans e1.symm) (hp j i h2 h1 hl)
theorem pre_get {α : Type} {l m : List α} (h : l <+: m) {i : Nat} {x : α} (hi : l[i]? = some x) : m[i]? = some x := by
  obtain ⟨r, rfl⟩ := h
  rw [List.getElem?_append_left (List.getElem?_eq_some_iff.1 hi).1]; exact hi
end Go.Proofs.Ytpijoieooikfgaa.Sv

namespace Go.Proofs.Ytpijoieooikfgaa.Sv
open Go
def VN (R : Nat) (ts : List Tm) : Tm → Int → Prop
  | .old v, n => n = (v : Int) ∧ v < R
  | .own v, n => n = ((R + v : Nat) : Int) ∧ v < R
  | t, n => ∃ i : Nat, ts[i]? = some t ∧ n = ((2 * R + i : Nat) : Int)
def VK (R : Nat) (ts : List Tm) : Tm → List Int → Prop
  | .cst n, k => k = [1, n, 0, 0]
  | .op o a b, k => ∃ x y, VN R ts a x ∧ VN R ts b y ∧ k = [2, o, x, y]
  | .ld b τ, k => k = [3, b, τ, 0]
  | .unk n, k => k = [4, (n : Int) + 1, 0, 0]
  | _, _ => False
structure VT (R : Nat) (ts : List Tm) (K : List (List Int)) : Prop where
  nd : ts.Nodup
  len : K.length = ts.length
  key : ∀ (i : Nat) (t : Tm) (k : List Int), ts[i]? = some t → K[i]? = some k → VK R ts t k
  word : ∀ (n : Int), Tm.cst n ∈ ts → isW n
section
variable {R : Nat} {ts ts' : List Tm} {K : List (List Int)}
theorem VN.ext (hp : ts <+: ts') : ∀ {t : Tm} {n : Int}, VN R ts t n → VN R ts' t n
  | .old _, _, h => h
  | .own _, _, h => h
  | .cst _, _, ⟨i, h1, h2⟩ => ⟨i, pre_get hp h1, h2⟩
  | .op _ _ _, _, ⟨i, h1, h2⟩ => ⟨i, pre_get hp h1, h2⟩
  | .ld _ _, _, ⟨i, h1, h2⟩ => ⟨i, pre_get hp h1, h2⟩
  | .unk _, _, ⟨i, h1, h2⟩ => ⟨i, pre_get hp h1, h2⟩
theorem VK.ext (hp : ts <+: ts') : ∀ {t : Tm} {k : List Int}, VK R ts t k → VK R ts' t k
  | .cst _, _, h => h
  | .op _ _ _, _, ⟨x, y, h1, h2, h3⟩ => ⟨x, y, h1.ext hp, h2.ext hp, h3⟩
  | .ld _ _, _, h => h
  | .unk _, _, h => h
theorem VN.tab {t : Tm} {k : List Int} {n : Int} (hk : VK R ts t k) : VN R ts t n ↔ ∃ i : Nat, ts[i]? = some t ∧ n = ((2 * R + i : Nat) : Int) := by
  cases t with
  | old => exact hk.elim
  | own => exact hk.elim
  | _ => exact Iff.rfl
theorem VN.cls {t : Tm} {n : Int} (h : VN R ts t n) : (∃ v : Nat, t = .old v ∧ n = (v : Int) ∧ v < R) ∨ (∃ v : Nat, t = .own v ∧ n = ((R + v : Nat) : Int) ∧ v < R) ∨ (∃ i : Nat, ts[i]? = some t ∧ n = ((2 * R + i : Nat) : Int)) := by
  cases t with
  | old v => exact .inl ⟨v, rfl, h.1, h.2⟩
  | own v => exact .inr (.inl ⟨v, rfl, h.1, h.2⟩)
  | _ => exact .inr (.inr h)
theorem VN.uniq (hnd : ts.Nodup) (hno : ∀ v, Tm.old v ∉ ts ∧ Tm.own v ∉ ts) {t : Tm} {n m : Int} (h1 : VN R ts t n) (h2 : VN R ts t m) : n = m := by
  cases t with
  | old => exact h1.1.trans h2.1.symm
  | own => exact h1.1.trans h2.1.symm
  | _ =>
    obtain ⟨i, a1, a2⟩ := h1
    obtain ⟨j, b1, b2⟩ := h2
    have := nodup_inj hnd a1 b1
    omega
theorem VN.inj {t s : Tm} {n : Int} (h1 : VN R ts t n) (h2 : VN R ts s n) : t = s := by
  rcases h1.cls with ⟨v, rfl, a1, a2⟩ | ⟨v, rfl, a1, a2⟩ | ⟨i, a1, a2⟩ <;> rcases h2.cls with ⟨u, rfl, b1, b2⟩ | ⟨u, rfl, b1, b2⟩ | ⟨j, b1, b2⟩
  · rw [show v = u by omega]
  · omega
  · omega
  · omega
  · rw [show v = u by omega]
  · omega
  · omega
  · omega
  · have : i = j := by omega
    subst this
    rw [a1] at b1; exact Option.some.inj b1
theorem VT.noreg (h : VT R ts K) (v : Nat) : Tm.old v ∉ ts ∧ Tm.own v ∉ ts := by
  constructor
  · intro hm
    obtain ⟨i, hi⟩ := List.mem_iff_getElem?.1 hm
    obtain ⟨k, hk⟩ := get_of_lt (l := K) (k := i) (by rw [h.len]; exact (List.getElem?_eq_some_iff.1 hi).1)
    exact h.key i _ k hi hk
  · intro hm
    obtain ⟨i, hi⟩ := List.mem_iff_getElem?.1 hm
    obtain ⟨k, hk⟩ := get_of_lt (l := K) (k := i) (by rw [h.len]; exact (List.getElem?_eq_some_iff.1 hi).1)
    exact h.key i _ k hi hk
theorem VT.uniq (h : VT R ts K) {t : Tm} {n m : Int} (h1 : VN R ts t n) (h2 : VN R ts t m) : n = m := VN.uniq h.nd h.noreg h1 h2
theorem VK.uniq (h : VT R ts K) : ∀ {t : Tm} {k k' : List Int}, VK R ts t k → VK R ts t k' → k = k'
  | .cst _, _, _, h1, h2 => h1.trans h2.symm
  | .op _ _ _, _, _, ⟨x, y, a1, a2, a3⟩, ⟨x', y', b1, b2, b3⟩ => by rw [a3, b3, h.uniq a1 b1, h.uniq a2 b2]
  | .ld _ _, _, _, h1, h2 => h1.trans h2.symm
  | .unk _, _, _, h1, h2 => h1.trans h2.symm
theorem VK.inj : ∀ {t s : Tm} {k : List Int}, VK R ts t k → VK R ts s k → t = s
  | .cst n, .cst m, _, h1, h2 => by have := h1.symm.trans h2; simp at this; rw [this]
  | .cst n, .op _ _ _, _, h1, ⟨x, y, _, _, h2⟩ => by have := h1.symm.trans h2; simp at this
  | .cst n, .ld _ _, _, h1, h2 => by have := h1.symm.trans h2; simp at this
  | .cst n, .unk _, _, h1, h2 => by have := h1.symm.trans h2; simp at this
  | .op _ _ _, .cst _, _, ⟨x, y, _, _, h1⟩, h2 => by have := h1.symm.trans h2; simp at this
  | .op o a b, .op o' a' b', _, ⟨x, y, a1, a2, a3⟩, ⟨x', y', b1, b2, b3⟩ => by
    have e := a3.symm.trans b3
    simp only [List.cons.injEq, true_and, and_true] at e
    obtain ⟨e1, e2, e3⟩ := e
    subst e2; subst e3
    rw [e1, VN.inj a1 b1, VN.inj a2 b2]
  | .op _ _ _, .ld _ _, _, ⟨x, y, _, _, h1⟩, h2 => by have := h1.symm.trans h2; simp at this
  | .op _ _ _, .unk _, _, ⟨x, y, _, _, h1⟩, h2 => by have := h1.symm.trans h2; simp at this
  | .ld _ _, .cst _, _, h1, h2 => by have := h1.symm.trans h2; simp at this
  | .ld _ _, .op _ _ _, _, h1, ⟨x, y, _, _, h2⟩ => by have := h1.symm.trans h2; simp at this
  | .ld b τ, .ld b' τ', _, h1, h2 => by have := h1.symm.trans h2; simp at this; rw [this.1, this.2]
  | .ld _ _, .unk _, _, h1, h2 => by have := h1.symm.trans h2; simp at this
  | .unk _, .cst _, _, h1, h2 => by have := h1.symm.trans h2; simp at this
  | .unk _, .op _ _ _, _, h1, ⟨x, y, _, _, h2⟩ => by have := h1.symm.trans h2; simp at this
  | .unk _, .ld _ _, _, h1, h2 => by have := h1.symm.trans h2; simp at this
  | .unk n, .unk m, _, h1, h2 => by
    have := h1.symm.trans h2
    simp only [List.cons.injEq, true_and, and_true] at this
    rw [show n = m by omega]
theorem kidx_none {k : List Int} : ∀ {K : List (List Int)}, kidx k K = none → k ∉ K
  | [], _ => by simp
  | x :: r, h => by
    unfold kidx at h
    cases hx : k == x with
    | true => rw [hx] at h; cases h
    | false =>
      rw [hx] at h
      have h' : kidx k r = none := by simpa using h
      have := kidx_none h'
      simp only [List.mem_cons, not_or]
      exact ⟨by simpa using hx, this⟩
theorem VT.num (h : VT R ts K) {t : Tm} {k : List Int} (hk : VK R ts t k) (hw : ∀ n, t = .cst n → isW n) : ∃ ts', ts <+: ts' ∧ VT R ts' (vnum ((2 * R : Nat) : Int) K k).2 ∧ VN R ts' t (vnum ((2 * R : Nat) : Int) K k).1 := by
  cases e : kidx k K with
  | some i =>
    rw [vnum_old e]
    obtain ⟨h1, h2⟩ := kidx_lt e
    obtain ⟨s, hs⟩ := get_of_lt (l := ts) (k := i) (by rw [← h.len]; exact h1)
    have := VK.inj (h.key i s k hs h2) hk
    subst this
    exact ⟨ts, List.prefix_rfl, h, (VN.tab hk).2 ⟨i, hs, by push_cast; omega⟩⟩
  | none =>
    rw [vnum_new e]
    have hni := kidx_none e
    have hnt : t ∉ ts := fun hm => by
      obtain ⟨i, hi⟩ := List.mem_iff_getElem?.1 hm
      obtain ⟨k', hk'⟩ := get_of_lt (l := K) (k := i) (by rw [h.len]; exact (List.getElem?_eq_some_iff.1 hi).1)
      have := VK.uniq h (h.key i t k' hi hk') hk
      subst this
      exact hni (List.mem_of_getElem? hk')
    have hp : ts <+: ts ++ [t] := List.prefix_append _ _
    refine ⟨ts ++ [t], hp, ⟨?_, ?_, fun i s k' hs hk' => ?_, fun n hn => ?_⟩, ?_⟩
    · rw [List.nodup_append]
      exact ⟨h.nd, by simp, fun a ha b hb => by simp at hb; subst hb; exact fun e => hnt (e ▸ ha)⟩
    · simp [h.len]
    · rw [List.getElem?_append] at hs hk'
      by_cases hi : i < ts.length
      · rw [if_pos hi] at hs
        rw [if_pos (by rw [h.len]; exact hi)] at hk'
        exact (h.key i s k' hs hk').ext hp
      · rw [if_neg hi] at hs
        rw [if_neg (by rw [h.len]; exact hi), h.len] at hk'
        have h0 : i - ts.length = 0 := by
          have := (List.getElem?_eq_some_iff.1 hs).1
          simp at this; omega
        rw [h0] at hs hk'
        simp at hs hk'
        subst hs; subst hk'
        exact hk.ext hp
    · simp only [List.mem_append, List.mem_singleton] at hn
      rcases hn with hn | hn
      · exact h.word n hn
      · exact hw n hn.symm
    · exact (VN.tab (hk.ext hp)).2 ⟨ts.length, by simp, by rw [h.len]; push_cast; omega⟩
theorem VT.cst (h : VT R ts K) {t : Tm} {n : Int} (hn : VN R ts t n) : (∃ c, t = .cst c ∧ isW c ∧ vconst ((2 * R : Nat) : Int) K n = (c, true)) ∨ ((∀ c, t ≠ .cst c) ∧ (vconst ((2 * R : Nat) : Int) K n).2 = false) := by
  rcases hn.cls with ⟨v, rfl, a1, a2⟩ | ⟨v, rfl, a1, a2⟩ | ⟨i, a1, a2⟩
  · exact .inr ⟨fun c => by simp, by rw [vconst_low (by simp; omega)]⟩
  · exact .inr ⟨fun c => by simp, by rw [vconst_low (by simp; omega)]⟩
  · obtain ⟨k, hk⟩ := get_of_lt (l := K) (k := i) (by rw [h.len]; exact (List.getElem?_eq_some_iff.1 a1).1)
    have hkey := h.key i t k a1 hk
    have hv : vconst ((2 * R : Nat) : Int) K n = (IntKind.u32.wrap (rget k 1), rget k 0 == 1) := by
      unfold vconst
      rw [show decide (n < ((2 * R : Nat) : Int)) = false by simp; omega, show (n - ((2 * R : Nat) : Int)).toNat = i by omega, hk]
      rfl
    rw [hv]
    cases t with
    | old => exact hkey.elim
    | own => exact hkey.elim
    | cst c =>
      have hc := h.word c (List.mem_of_getElem? a1)
      have hk' : k = [1, c, 0, 0] := hkey
      subst hk'
      refine .inl ⟨c, rfl, hc, ?_⟩
      show (IntKind.u32.wrap c, true) = _
      rw [IntKind.wrap_u32]
      obtain ⟨h1, h2⟩ := hc
      congr 1; omega
    | op o a b =>
      obtain ⟨x, y, _, _, rfl⟩ := hkey
      exact .inr ⟨fun c => by simp, rfl⟩
    | ld b τ =>
      have hk' : k = [3, b, τ, 0] := hkey
      subst hk'
      exact .inr ⟨fun c => by simp, rfl⟩
    | unk m =>
      have hk' : k = [4, (m : Int) + 1, 0, 0] := hkey
      subst hk'
      exact .inr ⟨fun c => by simp, rfl⟩
end
def VO (R : Nat) (ts : List Tm) : Option Tm → Int → Prop
  | none, n => n = 0
  | some t, n => VN R ts t n
def VE (R : Nat) (ts : List Tm) (e : SE) (k : List Int) : Prop := ∃ x y, VO R ts e.a x ∧ VO R ts e.b y ∧ k = bif e.risk then [1, e.k, x, y, 0, 0] else [2, e.op, e.base, e.size, x, y]
structure VS (R : Nat) (ts : List Tm) (w : VW) (s : SS) : Prop where
  t : VT R ts w.K
  regs : All2 (VN R ts) s.regs w.vals
  effs : All2 (VE R ts) s.effs w.effs
  time : w.time = s.time
section
variable {R : Nat} {ts ts' : List Tm}
theorem VO.ext (hp : ts <+: ts') : ∀ {t : Option Tm} {n : Int}, VO R ts t n → VO R ts' t n
  | none, _, h => h
  | some _, _, h => VN.ext hp h
theorem VE.ext (hp : ts <+: ts') {e : SE} {k : List Int} : VE R ts e k → VE R ts' e k := fun ⟨x, y, h1, h2, h3⟩ => ⟨x, y, h1.ext hp, h2.ext hp, h3⟩
theorem VS.at {w : VW} {s : SS} (h : VS R ts w s) {z : Int} (hz : 0 ≤ z ∧ z < s.regs.length) : VN R ts (tget s.regs z) (rget w.vals z) := by
  have hl := h.regs.len
  obtain ⟨x, hx⟩ := get_of_lt (l := s.regs) (k := z.toNat) (by omega)
  obtain ⟨y, hy⟩ := get_of_lt (l := w.vals) (k := z.toNat) (by omega)
  unfold tget rget
  rw [hx, hy]
  exact h.regs.get hx hy
theorem VS.put {w : VW} {s : SS} (h : VS R ts w s) (z : Int) {t : Tm} {k : List Int} (hk : VK R ts t k) (hw : ∀ n, t = .cst n → isW n) : ∃ ts', ts <+: ts' ∧ VS R ts' (w.put z (vnum ((2 * R : Nat) : Int) w.K k)) (s.put z t) := by
  obtain ⟨ts', hp, h1, h2⟩ := h.t.num hk hw
  exact ⟨ts', hp, h1, (h.regs.mono fun x y hxy => hxy.ext hp).set h2 _, h.effs.mono fun x y hxy => hxy.ext hp, h.time⟩
theorem VS.eff {w : VW} {s : SS} (h : VS R ts w s) {e : SE} {k : List Int} (he : VE R ts e k) : VS R ts { w with effs := w.effs ++ [k] } (s.eff e) := ⟨h.t, h.regs, h.effs.snoc he, h.time⟩
theorem VS.tick {w : VW} {s : SS} (h : VS R ts w s) : VS R ts w.tick s.tick := ⟨h.t, h.regs, h.effs, by show w.time + 1 = s.time + 1; rw [h.time]⟩
theorem VS.get {w : VW} {s : SS} (h : VS R ts w s) (t : Tac) {e : SE} {a : Int} (he : VE R ts e [2, t.op, t.base, t.size, a, 0]) : ∃ ts', ts <+: ts' ∧ VS R ts' ((w.hap t a 0).put t.d (vunk ((2 * R : Nat) : Int) (w.hap t a 0))) (s.get t e) := by
  have h1 : VS R ts (w.hap t a 0) (s.eff e) := h.eff he
  have hlen : (w.hap t a 0).effs.length = s.effs.length + 1 := by
    have := h.effs.len
    show (w.effs ++ [_]).length = _
    simp [this]
  refine h1.put t.d (t := .unk s.effs.length) (k := [4, ((w.hap t a 0).effs.length : Int), 0, 0]) ?_ (fun n e => by cases e)
  show _ = _
  rw [hlen]; push_cast; rfl
theorem VS.risky {w : VW} {s : SS} (h : VS R ts w s) {t : Tac} (hb : 0 ≤ t.b ∧ t.b < s.regs.length) : vrisky ((2 * R : Nat) : Int) w t = trisky t.k (tget s.regs t.b) := by
  unfold vrisky trisky
  congr 1
  rcases h.t.cst (h.at hb) with ⟨c, h1, h2, h3⟩ | ⟨h1, h2⟩
  · rw [h1, h3]; simp [Tm.isZero]
  · rw [h2]
    cases e : tget s.regs t.b with
    | cst c => exact absurd e (h1 c)
    | _ => rfl
theorem wapp_err {k x y : Int} (hk : 4 ≤ k ∧ k ≤ 15) : ((wapp k x y).2 == 0) = !(((k == 7 || k == 8)) && y == 0) := by
  unfold wapp
  have h : k = 4 ∨ k = 5 ∨ k = 6 ∨ k = 7 ∨ k = 8 ∨ k = 9 ∨ k = 10 ∨ k = 11 ∨ k = 12 ∨ k = 13 ∨ k = 14 ∨ k = 15 := by omega
  rcases h with rfl | rfl | rfl | rfl | rfl | rfl | rfl | rfl | rfl | rfl | rfl | rfl <;> first | rfl | (simp only [wdivide]; cases y == 0 <;> rfl)
theorem VS.apply {w : VW} {s : SS} (h : VS R ts w s) {t : Tac} (hk : 4 ≤ t.k ∧ t.k ≤ 15) (ha : 0 ≤ t.a ∧ t.a < s.regs.length) (hb : 0 ≤ t.b ∧ t.b < s.regs.length) :
    ∃ k, vapply ((2 * R : Nat) : Int) w.K t.k (rget w.vals t.a) (rget w.vals t.b) = vnum ((2 * R : Nat) : Int) w.K k ∧ VK R ts (tfold t.k (tget s.regs t.a) (tget s.regs t.b)) k ∧ ∀ n, tfold t.k (tget s.regs t.a) (tget s.regs t.b) = .cst n → isW n := by
  have hna := h.at ha
  have hnb := h.at hb
  have hop : ∀ x y : Tm, VN R ts x (rget w.vals t.a) → VN R ts y (rget w.vals t.b) → VK R ts (.op t.k x y) [2, t.k, rget w.vals t.a, rget w.vals t.b] := fun x y h1 h2 => ⟨_, _, h1, h2, rfl⟩
  rcases h.t.cst hna with ⟨c, h1, h2, h3⟩ | ⟨h1, h2⟩
  · rcases h.t.cst hnb with ⟨d, g1, g2, g3⟩ | ⟨g1, g2⟩
    · rw [h1] at hna ⊢
      rw [g1] at hnb ⊢
      have herr := wapp_err (k := t.k) (x := c) (y := d) hk
      cases hr : trisky t.k (.cst d) with
      | true =>
        have hr' : ((t.k == 7 || t.k == 8) && d == 0) = true := hr
        refine ⟨_, vapply_o3 (by rw [h3, g3, herr, hr']; rfl), ?_, ?_⟩
        · simp only [tfold, hr, cond_true]; exact hop _ _ hna hnb
        · simp only [tfold, hr, cond_true]; intro n e; cases e
      | false =>
        have hr' : ((t.k == 7 || t.k == 8) && d == 0) = false := hr
        refine ⟨_, vapply_c (by rw [h3]) (by rw [g3]) (by rw [h3, g3, herr, hr']; rfl), ?_, ?_⟩
        · simp only [tfold, hr, cond_false]; rw [h3, g3]; rfl
        · simp only [tfold, hr, cond_false]
          intro n e
          cases e
          exact wapp_word h2 g2
    · refine ⟨_, vapply_o2 g2, ?_, ?_⟩
      · cases e2 : tget s.regs t.b with
        | cst d => exact absurd e2 (g1 d)
        | _ => rw [h1] at hna ⊢; rw [e2] at hnb; exact hop _ _ hna hnb
      · intro n e
        cases e2 : tget s.regs t.b with
        | cst d => exact absurd e2 (g1 d)
        | _ => rw [h1, e2] at e; cases e
  · refine ⟨_, vapply_o1 h2, ?_, ?_⟩
    · cases e1 : tget s.regs t.a with
      | cst d => exact absurd e1 (h1 d)
      | _ => rw [e1] at hna; exact hop _ _ hna hnb
    · intro n e
      cases e1 : tget s.regs t.a with
      | cst d => exact absurd e1 (h1 d)
      | _ => rw [e1] at e; cases e
theorem VS.step {w : VW} {s : SS} (h : VS R ts w s) {t : Tac} (ht : TacT t R) (hl : s.regs.length = R) : ∃ ts', ts <+: ts' ∧ VS R ts' (w.step ((2 * R : Nat) : Int) t) (s.step t) := by
  have hd : setsOp t.op = true → 0 ≤ t.d ∧ t.d < s.regs.length := fun e => by rw [hl]; exact ht.d e
  have ha : use1 t.op = true ∨ use2 t.op = true → 0 ≤ t.a ∧ t.a < s.regs.length := fun e => by rw [hl]; exact ht.a e
  have hb : use2 t.op = true → 0 ≤ t.b ∧ t.b < s.regs.length := fun e => by rw [hl]; exact ht.b e
  have hw := ht.want
  have h10 : t.op = 1 ∨ t.op = 2 ∨ t.op = 3 ∨ t.op = 4 ∨ t.op = 5 ∨ t.op = 6 ∨ t.op = 7 ∨ t.op = 8 ∨ t.op = 9 ∨ t.op = 10 := by have := ht.op; omega
  have hsz : arrOp t.op = false → t.size = 0 := fun e => by have := congrArg Tac.size hw; simp only [Tac.want, e, cond_false] at this; exact this
  have hbs : (baseOp t.op || (arrOp t.op || t.op == 10)) = false → t.base = 0 := fun e => by have := congrArg Tac.base hw; simp only [Tac.want, e, cond_false] at this; exact this
  rcases h10 with ho | ho | ho | ho | ho | ho | ho | ho | ho | ho
  · rw [vstep1 ho, show s.step t = s.put t.d (.cst t.n) by unfold SS.step; rw [ho]; rfl]
    exact h.put t.d rfl (fun n e => by cases e; exact ht.n)
  · rw [vstep2 ho, show s.step t = s.put t.d (tget s.regs t.a) by unfold SS.step; rw [ho]; rfl]
    exact ⟨ts, List.prefix_rfl, h.t, h.regs.set (h.at (ha (.inl (by rw [ho]; rfl)))) _, h.effs, h.time⟩
  · rw [vstep3 ho, show s.step t = s.bin t by unfold SS.step; rw [ho]; rfl]
    have ha' := ha (.inr (by rw [ho]; rfl))
    have hb' := hb (by rw [ho]; rfl)
    obtain ⟨k, hk1, hk2, hk3⟩ := h.apply (ht.k ho) ha' hb'
    have hr := h.risky hb'
    have h1 : VS R ts (w.div ((2 * R : Nat) : Int) t) (s.div t) := by
      unfold VW.div SS.div
      rw [hr]
      cases trisky t.k (tget s.regs t.b) with
      | true => exact h.eff ⟨_, _, h.at ha', h.at hb', rfl⟩
      | false => exact h
    unfold VW.bin SS.bin
    rw [hk1]
    have := h1.put t.d hk2 hk3
    rwa [div_K] at this
  · rw [vstep4 ho, show s.step t = s.put t.d (.ld t.base s.time) by unfold SS.step; rw [ho]; rfl]
    exact h.put t.d (by show _ = _; rw [h.time]) (fun n e => by cases e)
  · rw [vstep5 ho, show s.step t = (s.eff ⟨false, 5, 0, t.base, 0, some (tget s.regs t.a), none⟩).tick by unfold SS.step; rw [ho]; rfl]
    refine ⟨ts, List.prefix_rfl, VS.tick (h.eff ⟨_, _, h.at (ha (.inl (by rw [ho]; rfl))), rfl, ?_⟩)⟩
    rw [ho, hsz (by rw [ho]; rfl)]; rfl
  · rw [vstep6 ho, show s.step t = s.get t ⟨false, 6, 0, t.base, t.size, some (tget s.regs t.a), none⟩ by unfold SS.step; rw [ho]; rfl]
    refine h.get t ⟨_, _, h.at (ha (.inl (by rw [ho]; rfl))), rfl, ?_⟩
    rw [ho]; rfl
  · rw [vstep7 ho, show s.step t = (s.eff ⟨false, 7, 0, t.base, t.size, some (tget s.regs t.a), some (tget s.regs t.b)⟩).tick by unfold SS.step; rw [ho]; rfl]
    refine ⟨ts, List.prefix_rfl, VS.tick (h.eff ⟨_, _, h.at (ha (.inr (by rw [ho]; rfl))), h.at (hb (by rw [ho]; rfl)), ?_⟩)⟩
    rw [ho]; rfl
  · rw [vstep8 ho, show s.step t = s.get t ⟨false, 8, 0, 0, 0, none, none⟩ by unfold SS.step; rw [ho]; rfl]
    refine h.get t ⟨_, _, rfl, rfl, ?_⟩
    rw [ho, hsz (by rw [ho]; rfl), hbs (by rw [ho]; rfl)]; rfl
  · rw [vstep9 ho, show s.step t = s.eff ⟨false, 9, 0, 0, 0, some (tget s.regs t.a), none⟩ by unfold SS.step; rw [ho]; rfl]
    refine ⟨ts, List.prefix_rfl, h.eff ⟨_, _, h.at (ha (.inl (by rw [ho]; rfl))), rfl, ?_⟩⟩
    rw [ho, hsz (by rw [ho]; rfl), hbs (by rw [ho]; rfl)]; rfl
  · rw [vstep10 ho, show s.step t = (s.eff ⟨false, 10, 0, t.base, 0, none, none⟩).tick by unfold SS.step; rw [ho]; rfl]
    refine ⟨ts, List.prefix_rfl, VS.tick (h.eff ⟨_, _, rfl, rfl, ?_⟩)⟩
    rw [ho, hsz (by rw [ho]; rfl)]; rfl
end
end Go.Proofs.Ytpijoieooikfgaa.Sv

namespace Go.Proofs.Ytpijoieooikfgaa.Sv
open Go
def symR (R : Nat) : List Tm := (List.range R).map Tm.old
def sideT (row : List Bool) (v : Nat) : Tm := bif (row[v]?).getD false then .old v else .own v
def symO (R : Nat) (row : List Bool) : List Tm := (List.range R).map (sideT row)
def srun (regs : List Tm) (l : List Tac) : SS := l.foldl SS.step ⟨regs, [], 0⟩
def tagree (x y : List Tm) (row : List Bool) : Bool := row.zipIdx.all fun p => !p.1 || decide (tget x (p.2 : Int) = tget y (p.2 : Int))
def tsame (R : Nat) (old new : Block) (c : Cert) (i : Int) (next : List Int) : Bool :=
  decide ((srun (symR R) old.ins).effs = (srun (symO R (c.at' i)) new.ins).effs) && ((!(old.fin == 2) || decide (tget (srun (symR R) old.ins).regs old.v = tget (srun (symO R (c.at' i)) new.ins).regs new.v)) && next.all fun k => tagree (srun (symR R) old.ins).regs (srun (symO R (c.at' i)) new.ins).regs (c.at' k))
theorem All2.map {α β γ : Type} {r : β → γ → Prop} {f : α → β} {g : α → γ} : ∀ {l : List α}, (∀ x ∈ l, r (f x) (g x)) → All2 r (l.map f) (l.map g)
  | [], _ => trivial
  | x :: l, h => ⟨h x (by simp), All2.map fun y hy => h y (by simp [hy])⟩
theorem srun_len (regs : List Tm) (l : List Tac) : (srun regs l).regs.length = regs.length := by
  unfold srun
  suffices h : ∀ s : SS, (l.foldl SS.step s).regs.length = s.regs.length by exact h ⟨regs, [], 0⟩
  induction l with
  | nil => exact fun s => rfl
  | cons t l ih => exact fun s => (ih _).trans (s.step_len t)
theorem srun_wf (regs : List Tm) (l : List Tac) : ∀ e ∈ (srun regs l).effs, e.wf := by
  unfold srun
  suffices h : ∀ s : SS, (∀ e ∈ s.effs, e.wf) → ∀ e ∈ (l.foldl SS.step s).effs, e.wf by exact h ⟨regs, [], 0⟩ (fun e he => by simp at he)
  induction l with
  | nil => exact fun s h => h
  | cons t l ih => exact fun s h => ih _ (SS.step_wf h t)
theorem symR_len (R : Nat) : (symR R).length = R := by simp [symR]
theorem symO_len (R : Nat) (row : List Bool) : (symO R row).length = R := by simp [symO]
section
variable {R : Nat} {ts : List Tm}
theorem VS.fold {l : List Tac} (hl : ∀ t ∈ l, TacT t R) : ∀ {ts : List Tm} {w : VW} {s : SS}, VS R ts w s → s.regs.length = R → ∃ ts', ts <+: ts' ∧ VS R ts' (vfold ((2 * R : Nat) : Int) l w) (l.foldl SS.step s) := by
  induction l with
  | nil => exact fun h _ => ⟨_, List.prefix_rfl, h⟩
  | cons t l ih =>
    intro ts w s h hr
    obtain ⟨ts1, hp1, h1⟩ := h.step (hl t (by simp)) hr
    obtain ⟨ts2, hp2, h2⟩ := ih (fun u hu => hl u (by simp [hu])) h1 ((s.step_len t).trans hr)
    exact ⟨ts2, hp1.trans hp2, h2⟩
theorem VE.uniq {K : List (List Int)} (hK : VT R ts K) {e : SE} {k k' : List Int} (h1 : VE R ts e k) (h2 : VE R ts e k') : k = k' := by
  obtain ⟨x, y, a1, a2, a3⟩ := h1
  obtain ⟨x', y', b1, b2, b3⟩ := h2
  have hu : ∀ {o : Option Tm} {n m : Int}, VO R ts o n → VO R ts o m → n = m := fun {o n m} g1 g2 => by
    cases o with
    | none => exact g1.trans g2.symm
    | some t => exact hK.uniq g1 g2
  rw [a3, b3, hu a1 b1, hu a2 b2]
theorem VE.inj {e e' : SE} {k : List Int} (hw : e.wf) (hw' : e'.wf) (h1 : VE R ts e k) (h2 : VE R ts e' k) : e = e' := by
  obtain ⟨x, y, a1, a2, a3⟩ := h1
  obtain ⟨x', y', b1, b2, b3⟩ := h2
  have hso : ∀ {o o' : Option Tm} {n : Int}, o.isSome → o'.isSome → VO R ts o n → VO R ts o' n → o = o' := fun {o o' n} g1 g2 g3 g4 => by
    cases o with
    | none => cases g1
    | some t => cases o' with
      | none => cases g2
      | some s => rw [VN.inj (R := R) (ts := ts) g3 g4]
  obtain ⟨r, o, k1, ba, si, oa, ob⟩ := e
  obtain ⟨r', o', k1', ba', si', oa', ob'⟩ := e'
  have h3 := a3.symm.trans b3
  rcases hw with ⟨w1, w2, w3, w4, w5, w6⟩ | ⟨w1, w0, w2⟩ <;> rcases hw' with ⟨v1, v2, v3, v4, v5, v6⟩ | ⟨v1, v0, v2⟩ <;> simp only at *
  · subst w1; subst v1; subst w2; subst v2; subst w3; subst v3; subst w4; subst v4
    simp only [cond_true, List.cons.injEq, true_and, and_true] at h3
    obtain ⟨e1, e2, e3⟩ := h3
    subst e1; subst e2; subst e3
    rw [hso w5 v5 a1 b1, hso w6 v6 a2 b2]
  · subst w1; subst v1
    simp at h3
  · subst w1; subst v1
    simp at h3
  · subst w1; subst v1; subst w0; subst v0
    simp only [cond_false, List.cons.injEq, true_and, and_true] at h3
    obtain ⟨e1, e2, e3, e4, e5⟩ := h3
    subst e1; subst e2; subst e3; subst e4; subst e5
    have hfin : oa = oa' → ob = ob' → (⟨false, o, 0, ba, si, oa, ob⟩ : SE) = ⟨false, o, 0, ba, si, oa', ob'⟩ := fun q1 q2 => by rw [q1, q2]
    rcases w2 with ⟨u1, u2, u3, u4⟩ | ⟨u1, u3, u4⟩ | ⟨u1, u3, u4⟩ | ⟨u1, u2, u5, u3, u4⟩ | ⟨u1, u2, u5, u3, u4⟩ | ⟨u1, u2, u3, u4⟩ <;>
      rcases v2 with ⟨q1, q2, q3, q4⟩ | ⟨q1, q3, q4⟩ | ⟨q1, q3, q4⟩ | ⟨q1, q2, q5, q3, q4⟩ | ⟨q1, q2, q5, q3, q4⟩ | ⟨q1, q2, q3, q4⟩ <;> first
        | (exfalso; omega)
        | exact hfin (hso u3 q3 a1 b1) (u4.trans q4.symm)
        | exact hfin (hso u3 q3 a1 b1) (hso u4 q4 a2 b2)
        | exact hfin (u3.trans q3.symm) (u4.trans q4.symm)
end
theorem beq_dec {a b : Int} {p : Prop} [Decidable p] (h : a = b ↔ p) : (a == b) = decide p := by
  rw [Bool.eq_iff_iff, beq_iff_eq, decide_eq_true_iff, h]
theorem All2.at {α β : Type} {r : α → β → Prop} {l : List α} {m : List β} (h : All2 r l m) {i : Nat} (hi : i < l.length) : ∃ x y, l[i]? = some x ∧ m[i]? = some y ∧ r x y := by
  obtain ⟨x, hx⟩ := get_of_lt hi
  obtain ⟨y, hy⟩ := get_of_lt (l := m) (k := i) (by rw [← h.len]; exact hi)
  exact ⟨x, y, hx, hy, h.get hx hy⟩
theorem agree_eq {α : Type} {R : Nat} {rel rel' : Tm → Int → Prop} {xs ys : List Tm} {us vs : List Int} (hu : ∀ t n m, rel t n → rel' t m → n = m) (hi : ∀ t s n, rel t n → rel' s n → t = s) (h1 : All2 rel xs us) (h2 : All2 rel' ys vs) (l1 : xs.length = R) (l2 : ys.length = R) {z z' : Int} (hz : 0 ≤ z ∧ z < R) (hz' : 0 ≤ z' ∧ z' < R) : (rget us z == rget vs z') = decide (tget xs z = tget ys z') := by
  obtain ⟨x, a, x1, a1, r1⟩ := h1.at (i := z.toNat) (by omega)
  obtain ⟨y, b, y1, b1, r2⟩ := h2.at (i := z'.toNat) (by omega)
  refine beq_dec ?_
  unfold rget tget
  rw [x1, a1, y1, b1]
  simp only [Option.getD_some]
  constructor
  · intro e; subst e; exact hi _ _ _ r1 r2
  · intro e; subst e; exact hu _ _ _ r1 r2
theorem all_cong {α : Type} {l : List α} {p q : α → Bool} (h : ∀ x ∈ l, p x = q x) : l.all p = l.all q := by
  induction l with
  | nil => rfl
  | cons x l ih => simp only [List.all_cons, h x (by simp), ih fun y hy => h y (by simp [hy])]
theorem vagree_t {R : Nat} {rel rel' : Tm → Int → Prop} {xs ys : List Tm} {wx wy : VW} {row : List Bool} (hu : ∀ t n m, rel t n → rel' t m → n = m) (hi : ∀ t s n, rel t n → rel' s n → t = s) (h1 : All2 rel xs wx.vals) (h2 : All2 rel' ys wy.vals) (l1 : xs.length = R) (l2 : ys.length = R) (hr : row.length = R) : vagree wx wy row = tagree xs ys row := by
  unfold vagree tagree
  refine all_cong fun p hp => ?_
  obtain ⟨b, j⟩ := p
  obtain ⟨i, hi'⟩ := List.mem_iff_getElem?.1 hp
  rw [List.getElem?_zipIdx, Option.map_eq_some_iff] at hi'
  obtain ⟨b', hb', e⟩ := hi'
  simp only [Nat.zero_add, Prod.mk.injEq] at e
  obtain ⟨rfl, rfl⟩ := e
  have hlt := (List.getElem?_eq_some_iff.1 hb').1
  dsimp only
  rw [agree_eq (α := Unit) (R := R) hu hi h1 h2 l1 l2 (by omega) (by omega)]
theorem vsame_t {R : Nat} {old new : Block} {c : Cert} {i : Int} {next : List Int} (ho : ∀ t ∈ old.ins, TacT t R) (hn : ∀ t ∈ new.ins, TacT t R) (hc : ∀ r ∈ c.same, r.length = R) (hnx : ∀ k ∈ next, 0 ≤ k ∧ k < c.same.length) (hv : old.fin = 2 → (0 ≤ old.v ∧ old.v < R) ∧ (0 ≤ new.v ∧ new.v < R)) :
    vsame R old new c i next = tsame R old new c i next := by
  have h0 : VS R [] ⟨[], idsA R, [], 0⟩ ⟨symR R, [], 0⟩ := ⟨⟨List.nodup_nil, rfl, fun i t k h => by simp at h, fun n h => by simp at h⟩, All2.map fun v hv => ⟨rfl, List.mem_range.1 hv⟩, trivial, rfl⟩
  obtain ⟨ts1, hp1, h1⟩ := VS.fold ho h0 (symR_len R)
  have h2 : VS R ts1 ⟨(vrunA R old).K, idsB R (c.at' i), [], 0⟩ ⟨symO R (c.at' i), [], 0⟩ := ⟨h1.t, All2.map fun v hv => by
    unfold sideT sideB
    have hlt := List.mem_range.1 hv
    cases ((c.at' i)[v]?).getD false with
    | true => exact ⟨rfl, hlt⟩
    | false => exact ⟨rfl, hlt⟩, trivial, rfl⟩
  obtain ⟨ts2, hp2, h3⟩ := VS.fold hn h2 (symO_len R _)
  have hA1 : All2 (VN R ts2) (srun (symR R) old.ins).regs (vrunA R old).vals := h1.regs.mono fun x y h => h.ext hp2
  have hA2 : All2 (VE R ts2) (srun (symR R) old.ins).effs (vrunA R old).effs := h1.effs.mono fun x y h => h.ext hp2
  have hB1 : All2 (VN R ts2) (srun (symO R (c.at' i)) new.ins).regs (vrunB R old new (c.at' i)).vals := h3.regs
  have hB2 : All2 (VE R ts2) (srun (symO R (c.at' i)) new.ins).effs (vrunB R old new (c.at' i)).effs := h3.effs
  have lA := (srun_len (symR R) old.ins).trans (symR_len R)
  have lB := (srun_len (symO R (c.at' i)) new.ins).trans (symO_len R _)
  have hu : ∀ t n m, VN R ts2 t n → VN R ts2 t m → n = m := fun t n m a b => h3.t.uniq a b
  have hi : ∀ t s n, VN R ts2 t n → VN R ts2 s n → t = s := fun t s n a b => VN.inj a b
  unfold vsame tsame
  congr 1
  · exact decide_eq_decide.2 (All2.iff (r := VE R ts2) (r' := VE R ts2) (p := SE.wf) (q := SE.wf) (fun e k k' _ a b => VE.uniq h3.t a b) (fun e e' k p q a b => VE.inj p q a b) (srun_wf _ _) (srun_wf _ _) hA2 hB2)
  congr 1
  · by_cases hf : old.fin = 2
    · rw [agree_eq (α := Unit) (R := R) hu hi hA1 hB1 lA lB (hv hf).1 (hv hf).2]
    · rw [show (old.fin == 2) = false by simpa using hf]; rfl
  · refine all_cong fun k hk => ?_
    have hkr := hnx k hk
    have hrow : (c.at' k).length = R := by
      obtain ⟨r, hr⟩ := get_of_lt (l := c.same) (k := k.toNat) (by omega)
      unfold Cert.at'
      rw [hr]
      exact hc r (List.mem_of_getElem? hr)
    exact vagree_t (R := R) hu hi hA1 hB1 lA lB hrow
end Go.Proofs.Ytpijoieooikfgaa.Sv

namespace Go.Proofs.Ytpijoieooikfgaa.Sv
open Go
def RN (ts : List Tm) (t : Tm) (n : Int) : Prop := ∃ i : Nat, ts[i]? = some t ∧ n = (i : Int)
def RK (ts : List Tm) : Tm → RVal → Prop
  | .cst n, k => k = ⟨1, 0, 0, 0, 0, 0, 0, 0, n⟩
  | .op o a b, k => ∃ x y, RN ts a x ∧ RN ts b y ∧ k = ⟨3, o, x, y, 0, 0, 0, 0, 0⟩
  | .ld b τ, k => k = ⟨4, 0, 0, 0, 0, 0, b, τ, 0⟩
  | .unk n, k => k = runkV n
  | .old v, k => k = RVal.reg v 0
  | .own v, k => k = RVal.reg v 1
structure RT (ts : List Tm) (K : List RVal) : Prop where
  nd : ts.Nodup
  len : K.length = ts.length
  key : ∀ (i : Nat) (t : Tm) (k : RVal), ts[i]? = some t → K[i]? = some k → RK ts t k
  word : ∀ (n : Int), Tm.cst n ∈ ts → isW n
section
variable {ts ts' : List Tm} {K : List RVal}
theorem RN.ext (hp : ts <+: ts') {t : Tm} {n : Int} : RN ts t n → RN ts' t n := fun ⟨i, h1, h2⟩ => ⟨i, pre_get hp h1, h2⟩
theorem RK.ext (hp : ts <+: ts') : ∀ {t : Tm} {k : RVal}, RK ts t k → RK ts' t k
  | .cst _, _, h => h
  | .op _ _ _, _, ⟨x, y, h1, h2, h3⟩ => ⟨x, y, h1.ext hp, h2.ext hp, h3⟩
  | .ld _ _, _, h => h
  | .unk _, _, h => h
  | .old _, _, h => h
  | .own _, _, h => h
theorem RN.uniq (hnd : ts.Nodup) {t : Tm} {n m : Int} (h1 : RN ts t n) (h2 : RN ts t m) : n = m := by
  obtain ⟨i, a1, a2⟩ := h1
  obtain ⟨j, b1, b2⟩ := h2
  have := nodup_inj hnd a1 b1
  omega
theorem RN.inj {t s : Tm} {n : Int} (h1 : RN ts t n) (h2 : RN ts s n) : t = s := by
  obtain ⟨i, a1, a2⟩ := h1
  obtain ⟨j, b1, b2⟩ := h2
  have : i = j := by omega
  subst this
  rw [a1] at b1; exact Option.some.inj b1
theorem RK.uniq (h : ts.Nodup) : ∀ {t : Tm} {k k' : RVal}, RK ts t k → RK ts t k' → k = k'
  | .cst _, _, _, h1, h2 => h1.trans h2.symm
  | .op _ _ _, _, _, ⟨x, y, a1, a2, a3⟩, ⟨x', y', b1, b2, b3⟩ => by rw [a3, b3, RN.uniq h a1 b1, RN.uniq h a2 b2]
  | .ld _ _, _, _, h1, h2 => h1.trans h2.symm
  | .unk _, _, _, h1, h2 => h1.trans h2.symm
  | .old _, _, _, h1, h2 => h1.trans h2.symm
  | .own _, _, _, h1, h2 => h1.trans h2.symm
def tkind : Tm → Int
  | .cst _ => 1
  | .op _ _ _ => 3
  | .ld _ _ => 4
  | .unk _ => 2
  | .old _ => 2
  | .own _ => 2
def tside : Tm → Int
  | .unk _ => 2
  | .own _ => 1
  | _ => 0
theorem RK.kind {t : Tm} {k : RVal} (h : RK ts t k) : k.kind = tkind t ∧ k.side = tside t := by
  cases t with
  | op o a b => obtain ⟨x, y, _, _, rfl⟩ := h; exact ⟨rfl, rfl⟩
  | _ => have h' : k = _ := h; subst h'; exact ⟨rfl, rfl⟩
theorem RK.inj {t s : Tm} {k : RVal} (h1 : RK ts t k) (h2 : RK ts s k) : t = s := by
  have e1 := h1.kind
  have e2 := h2.kind
  have ek : tkind t = tkind s := e1.1.symm.trans e2.1
  have es : tside t = tside s := e1.2.symm.trans e2.2
  cases t <;> cases s <;> first | (exfalso; revert ek; simp only [tkind]; decide) | (exfalso; revert es; simp only [tside]; decide) | skip
  · have e : RVal.reg _ 0 = RVal.reg _ 0 := (show k = _ from h1).symm.trans h2
    simp only [RVal.reg, RVal.mk.injEq, true_and, and_true] at e
    exact congrArg Tm.old (Int.ofNat_inj.1 e)
  · have e : RVal.reg _ 1 = RVal.reg _ 1 := (show k = _ from h1).symm.trans h2
    simp only [RVal.reg, RVal.mk.injEq, true_and, and_true] at e
    exact congrArg Tm.own (Int.ofNat_inj.1 e)
  · have e := (show k = _ from h1).symm.trans h2
    simp only [RVal.mk.injEq, true_and, and_true] at e
    rw [e]
  · obtain ⟨x, y, a1, a2, a3⟩ := h1
    obtain ⟨x', y', b1, b2, b3⟩ := h2
    have e := a3.symm.trans b3
    simp only [RVal.mk.injEq, true_and, and_true] at e
    obtain ⟨q1, q2, q3⟩ := e
    subst q2; subst q3
    rw [q1, RN.inj a1 b1, RN.inj a2 b2]
  · have e := (show k = _ from h1).symm.trans h2
    simp only [RVal.mk.injEq, true_and, and_true] at e
    rw [e.1, e.2]
  · have e : runkV _ = runkV _ := (show k = _ from h1).symm.trans h2
    simp only [runkV, RVal.mk.injEq, true_and, and_true] at e
    exact congrArg Tm.unk (Int.ofNat_inj.1 e)
theorem ridx_no {v : RVal} : ∀ {L : List RVal}, ridx v L = none → v ∉ L
  | [], _ => by simp
  | x :: r, h => by
    unfold ridx at h
    cases hx : x.same v with
    | true => rw [hx] at h; cases h
    | false =>
      rw [hx] at h
      have h' : ridx v r = none := by simpa using h
      have := ridx_no h'
      simp only [List.mem_cons, not_or]
      refine ⟨fun e => ?_, this⟩
      subst e
      rw [(RVal.same_iff v v).2 rfl] at hx; cases hx
theorem RT.num (h : RT ts K) {t : Tm} {k : RVal} (hk : RK ts t k) (hw : ∀ n, t = .cst n → isW n) : ∃ ts', ts <+: ts' ∧ RT ts' (rnum K k).2 ∧ RN ts' t (rnum K k).1 := by
  cases e : ridx k K with
  | some i =>
    rw [rnum_old e]
    obtain ⟨h1, h2⟩ := ridx_lt e
    obtain ⟨s, hs⟩ := get_of_lt (l := ts) (k := i) (by rw [← h.len]; exact h1)
    have := RK.inj (h.key i s k hs h2) hk
    subst this
    exact ⟨ts, List.prefix_rfl, h, i, hs, rfl⟩
  | none =>
    rw [rnum_new e]
    have hni := ridx_no e
    have hnt : t ∉ ts := fun hm => by
      obtain ⟨i, hi⟩ := List.mem_iff_getElem?.1 hm
      obtain ⟨k', hk'⟩ := get_of_lt (l := K) (k := i) (by rw [h.len]; exact (List.getElem?_eq_some_iff.1 hi).1)
      have := RK.uniq h.nd (h.key i t k' hi hk') hk
      subst this
      exact hni (List.mem_of_getElem? hk')
    have hp : ts <+: ts ++ [t] := List.prefix_append _ _
    refine ⟨ts ++ [t], hp, ⟨?_, ?_, fun i s k' hs hk' => ?_, fun n hn => ?_⟩, ?_⟩
    · rw [List.nodup_append]
      exact ⟨h.nd, by simp, fun a ha b hb => by simp at hb; subst hb; exact fun e => hnt (e ▸ ha)⟩
    · simp [h.len]
    · rw [List.getElem?_append] at hs hk'
      by_cases hi : i < ts.length
      · rw [if_pos hi] at hs
        rw [if_pos (by rw [h.len]; exact hi)] at hk'
        exact (h.key i s k' hs hk').ext hp
      · rw [if_neg hi] at hs
        rw [if_neg (by rw [h.len]; exact hi), h.len] at hk'
        have h0 : i - ts.length = 0 := by
          have := (List.getElem?_eq_some_iff.1 hs).1
          simp at this; omega
        rw [h0] at hs hk'
        simp at hs hk'
        subst hs; subst hk'
        exact hk.ext hp
    · simp only [List.mem_append, List.mem_singleton] at hn
      rcases hn with hn | hn
      · exact h.word n hn
      · exact hw n hn.symm
    · exact ⟨ts.length, by simp, by rw [h.len]⟩
theorem RT.cst (h : RT ts K) {t : Tm} {n : Int} (hn : RN ts t n) : (∃ c, t = .cst c ∧ isW c ∧ rconst K n = (c, true)) ∨ ((∀ c, t ≠ .cst c) ∧ (rconst K n).2 = false) := by
  obtain ⟨i, a1, a2⟩ := hn
  obtain ⟨k, hk⟩ := get_of_lt (l := K) (k := i) (by rw [h.len]; exact (List.getElem?_eq_some_iff.1 a1).1)
  have hkey := h.key i t k a1 hk
  have hv : rconst K n = (k.n, k.kind == 1) := by
    unfold rconst rval
    rw [show n.toNat = i by omega, hk]
    rfl
  rw [hv]
  by_cases hc : ∃ c, t = .cst c
  · obtain ⟨c, rfl⟩ := hc
    have hk' : k = ⟨1, 0, 0, 0, 0, 0, 0, 0, c⟩ := hkey
    subst hk'
    exact .inl ⟨c, rfl, h.word c (List.mem_of_getElem? a1), rfl⟩
  · refine .inr ⟨fun c e => hc ⟨c, e⟩, ?_⟩
    rw [hkey.kind.1]
    cases t <;> first | rfl | exact absurd ⟨_, rfl⟩ hc
end
def RO (ts : List Tm) : Option Tm → Int → Prop
  | none, n => n = 0
  | some t, n => RN ts t n
def RE (ts : List Tm) (e : SE) (k : REff) : Prop := ∃ x y, RO ts e.a x ∧ RO ts e.b y ∧ k = ⟨e.op, e.k, e.base, e.size, x, y⟩
structure RS (ts : List Tm) (w : RW) (s : SS) : Prop where
  t : RT ts w.L
  regs : All2 (RN ts) s.regs w.regs
  effs : All2 (RE ts) s.effs w.out
  time : w.time = s.time
section
variable {R : Nat} {ts ts' : List Tm}
theorem RO.ext (hp : ts <+: ts') : ∀ {t : Option Tm} {n : Int}, RO ts t n → RO ts' t n
  | none, _, h => h
  | some _, _, h => RN.ext hp h
theorem RE.ext (hp : ts <+: ts') {e : SE} {k : REff} : RE ts e k → RE ts' e k := fun ⟨x, y, h1, h2, h3⟩ => ⟨x, y, h1.ext hp, h2.ext hp, h3⟩
theorem RS.at {w : RW} {s : SS} (h : RS ts w s) {z : Int} (hz : 0 ≤ z ∧ z < s.regs.length) : RN ts (tget s.regs z) (rget w.regs z) := by
  have hl := h.regs.len
  obtain ⟨x, hx⟩ := get_of_lt (l := s.regs) (k := z.toNat) (by omega)
  obtain ⟨y, hy⟩ := get_of_lt (l := w.regs) (k := z.toNat) (by omega)
  unfold tget rget
  rw [hx, hy]
  exact h.regs.get hx hy
theorem RS.put {w : RW} {s : SS} (h : RS ts w s) (z : Int) {t : Tm} {k : RVal} (hk : RK ts t k) (hw : ∀ n, t = .cst n → isW n) : ∃ ts', ts <+: ts' ∧ RS ts' (w.put z (rnum w.L k)) (s.put z t) := by
  obtain ⟨ts', hp, h1, h2⟩ := h.t.num hk hw
  exact ⟨ts', hp, h1, (h.regs.mono fun x y hxy => hxy.ext hp).set h2 _, h.effs.mono fun x y hxy => hxy.ext hp, h.time⟩
theorem RS.eff {w : RW} {s : SS} (h : RS ts w s) {e : SE} {k : REff} (he : RE ts e k) : RS ts (w.eff k) (s.eff e) := ⟨h.t, h.regs, h.effs.snoc he, h.time⟩
theorem RS.tick {w : RW} {s : SS} (h : RS ts w s) : RS ts w.tick s.tick := ⟨h.t, h.regs, h.effs, by show w.time + 1 = s.time + 1; rw [h.time]⟩
theorem RS.get {w : RW} {s : SS} (h : RS ts w s) (t : Tac) {e : SE} {k : REff} (he : RE ts e k) : ∃ ts', ts <+: ts' ∧ RS ts' (w.get t k) (s.get t e) := by
  have h1 : RS ts (w.eff k) (s.eff e) := h.eff he
  have := h1.put t.d (t := .unk s.effs.length) (k := runkV w.out.length) (by show _ = _; rw [h.effs.len]) (fun n e => by cases e)
  exact this
theorem RS.risky {w : RW} {s : SS} (h : RS ts w s) {t : Tac} (hb : 0 ≤ t.b ∧ t.b < s.regs.length) : rrisky w t = trisky t.k (tget s.regs t.b) := by
  unfold rrisky trisky
  congr 1
  rcases h.t.cst (h.at hb) with ⟨c, h1, h2, h3⟩ | ⟨h1, h2⟩
  · rw [h1, h3]; simp [Tm.isZero]
  · rw [h2]
    cases e : tget s.regs t.b with
    | cst c => exact absurd e (h1 c)
    | _ => rfl
theorem RS.apply {w : RW} {s : SS} (h : RS ts w s) {t : Tac} (ha : 0 ≤ t.a ∧ t.a < s.regs.length) (hb : 0 ≤ t.b ∧ t.b < s.regs.length) :
    RK ts (tfold t.k (tget s.regs t.a) (tget s.regs t.b)) (rapplyV w t) ∧ ∀ n, tfold t.k (tget s.regs t.a) (tget s.regs t.b) = .cst n → isW n := by
  have hna := h.at ha
  have hnb := h.at hb
  have hr := h.risky hb
  have hop : ∀ x y : Tm, RN ts x (rget w.regs t.a) → RN ts y (rget w.regs t.b) → RK ts (.op t.k x y) ⟨3, t.k, rget w.regs t.a, rget w.regs t.b, 0, 0, 0, 0, 0⟩ := fun x y h1 h2 => ⟨_, _, h1, h2, rfl⟩
  rcases h.t.cst hna with ⟨c, h1, h2, h3⟩ | ⟨h1, h2⟩
  · rcases h.t.cst hnb with ⟨d, g1, g2, g3⟩ | ⟨g1, g2⟩
    · rw [g1] at hr
      rw [h1] at hna ⊢
      rw [g1] at hnb ⊢
      cases hk : trisky t.k (.cst d) with
      | true =>
        rw [hk] at hr
        rw [rapplyV_o (by unfold rfold; rw [hr]; simp)]
        simp only [tfold, hk, cond_true]
        exact ⟨hop _ _ hna hnb, fun n e => by cases e⟩
      | false =>
        rw [hk] at hr
        rw [rapplyV_c (by unfold rfold; rw [hr, h3, g3]; rfl), h3, g3]
        simp only [tfold, hk, cond_false]
        exact ⟨rfl, fun n e => by cases e; exact wapp_word h2 g2⟩
    · rw [rapplyV_o (by unfold rfold; rw [g2]; simp)]
      rw [h1] at hna ⊢
      cases e2 : tget s.regs t.b with
      | cst d => exact absurd e2 (g1 d)
      | _ => rw [e2] at hnb; exact ⟨hop _ _ hna hnb, fun n e => by cases e⟩
  · rw [rapplyV_o (by unfold rfold; rw [h2]; rfl)]
    cases e1 : tget s.regs t.a with
    | cst d => exact absurd e1 (h1 d)
    | _ => rw [e1] at hna; exact ⟨hop _ _ hna hnb, fun n e => by cases e⟩
theorem RS.step {w : RW} {s : SS} (h : RS ts w s) {t : Tac} (ht : TacT t R) (hl : s.regs.length = R) : ∃ ts', ts <+: ts' ∧ RS ts' (w.step t) (s.step t) := by
  have ha : use1 t.op = true ∨ use2 t.op = true → 0 ≤ t.a ∧ t.a < s.regs.length := fun e => by rw [hl]; exact ht.a e
  have hb : use2 t.op = true → 0 ≤ t.b ∧ t.b < s.regs.length := fun e => by rw [hl]; exact ht.b e
  have h10 : t.op = 1 ∨ t.op = 2 ∨ t.op = 3 ∨ t.op = 4 ∨ t.op = 5 ∨ t.op = 6 ∨ t.op = 7 ∨ t.op = 8 ∨ t.op = 9 ∨ t.op = 10 := by have := ht.op; omega
  rcases h10 with ho | ho | ho | ho | ho | ho | ho | ho | ho | ho
  · rw [rstep1 ho, show s.step t = s.put t.d (.cst t.n) by unfold SS.step; rw [ho]; rfl]
    exact h.put t.d rfl (fun n e => by cases e; exact ht.n)
  · rw [rstep2 ho, show s.step t = s.put t.d (tget s.regs t.a) by unfold SS.step; rw [ho]; rfl]
    exact ⟨ts, List.prefix_rfl, h.t, h.regs.set (h.at (ha (.inl (by rw [ho]; rfl)))) _, h.effs, h.time⟩
  · rw [rstep3 ho, show s.step t = s.bin t by unfold SS.step; rw [ho]; rfl]
    have ha' := ha (.inr (by rw [ho]; rfl))
    have hb' := hb (by rw [ho]; rfl)
    obtain ⟨hk2, hk3⟩ := h.apply ha' hb'
    have hr := h.risky hb'
    have h1 : RS ts (w.div t) (s.div t) := by
      unfold RW.div SS.div
      rw [hr]
      cases trisky t.k (tget s.regs t.b) with
      | true => exact h.eff ⟨_, _, h.at ha', h.at hb', by rw [ho]⟩
      | false => exact h
    have := h1.put t.d hk2 hk3
    rw [rdiv_L] at this
    exact this
  · rw [rstep4 ho, show s.step t = s.put t.d (.ld t.base s.time) by unfold SS.step; rw [ho]; rfl]
    exact h.put t.d (by show _ = _; rw [h.time]) (fun n e => by cases e)
  · rw [rstep5 ho, show s.step t = (s.eff ⟨false, 5, 0, t.base, 0, some (tget s.regs t.a), none⟩).tick by unfold SS.step; rw [ho]; rfl]
    exact ⟨ts, List.prefix_rfl, RS.tick (h.eff ⟨_, _, h.at (ha (.inl (by rw [ho]; rfl))), rfl, by rw [ho]⟩)⟩
  · rw [rstep6 ho, show s.step t = s.get t ⟨false, 6, 0, t.base, t.size, some (tget s.regs t.a), none⟩ by unfold SS.step; rw [ho]; rfl]
    exact h.get t ⟨_, _, h.at (ha (.inl (by rw [ho]; rfl))), rfl, by rw [ho]⟩
  · rw [rstep7 ho, show s.step t = (s.eff ⟨false, 7, 0, t.base, t.size, some (tget s.regs t.a), some (tget s.regs t.b)⟩).tick by unfold SS.step; rw [ho]; rfl]
    exact ⟨ts, List.prefix_rfl, RS.tick (h.eff ⟨_, _, h.at (ha (.inr (by rw [ho]; rfl))), h.at (hb (by rw [ho]; rfl)), by rw [ho]⟩)⟩
  · rw [rstep8 ho, show s.step t = s.get t ⟨false, 8, 0, 0, 0, none, none⟩ by unfold SS.step; rw [ho]; rfl]
    exact h.get t ⟨_, _, rfl, rfl, by rw [ho]⟩
  · rw [rstep9 ho, show s.step t = s.eff ⟨false, 9, 0, 0, 0, some (tget s.regs t.a), none⟩ by unfold SS.step; rw [ho]; rfl]
    exact ⟨ts, List.prefix_rfl, h.eff ⟨_, _, h.at (ha (.inl (by rw [ho]; rfl))), rfl, by rw [ho]⟩⟩
  · have hn : ∀ k : Int, k ≠ 10 → (t.op == k) = false := fun k hk => by rw [ho]; simpa using Ne.symm hk
    rw [rstep0 (hn 1 (by decide)) (hn 2 (by decide)) (hn 3 (by decide)) (hn 4 (by decide)) (hn 5 (by decide)) (hn 6 (by decide)) (hn 7 (by decide)) (hn 8 (by decide)) (hn 9 (by decide)), show s.step t = (s.eff ⟨false, 10, 0, t.base, 0, none, none⟩).tick by unfold SS.step; rw [ho]; rfl]
    exact ⟨ts, List.prefix_rfl, RS.tick (h.eff ⟨_, _, rfl, rfl, by rw [ho]⟩)⟩
theorem RS.fold {l : List Tac} (hl : ∀ t ∈ l, TacT t R) : ∀ {ts : List Tm} {w : RW} {s : SS}, RS ts w s → s.regs.length = R → ∃ ts', ts <+: ts' ∧ RS ts' (l.foldl RW.step w) (l.foldl SS.step s) := by
  induction l with
  | nil => exact fun h _ => ⟨_, List.prefix_rfl, h⟩
  | cons t l ih =>
    intro ts w s h hr
    obtain ⟨ts1, hp1, h1⟩ := h.step (hl t (by simp)) hr
    obtain ⟨ts2, hp2, h2⟩ := ih (fun u hu => hl u (by simp [hu])) h1 ((s.step_len t).trans hr)
    exact ⟨ts2, hp1.trans hp2, h2⟩
theorem RE.uniq (hK : ts.Nodup) {e : SE} {k k' : REff} (h1 : RE ts e k) (h2 : RE ts e k') : k = k' := by
  obtain ⟨x, y, a1, a2, a3⟩ := h1
  obtain ⟨x', y', b1, b2, b3⟩ := h2
  have hu : ∀ {o : Option Tm} {n m : Int}, RO ts o n → RO ts o m → n = m := fun {o n m} g1 g2 => by
    cases o with
    | none => exact g1.trans g2.symm
    | some t => exact RN.uniq hK g1 g2
  rw [a3, b3, hu a1 b1, hu a2 b2]
theorem RE.inj {e e' : SE} {k : REff} (hw : e.wf) (hw' : e'.wf) (h1 : RE ts e k) (h2 : RE ts e' k) : e = e' := by
  obtain ⟨x, y, a1, a2, a3⟩ := h1
  obtain ⟨x', y', b1, b2, b3⟩ := h2
  have hso : ∀ {o o' : Option Tm} {n : Int}, o.isSome → o'.isSome → RO ts o n → RO ts o' n → o = o' := fun {o o' n} g1 g2 g3 g4 => by
    cases o with
    | none => cases g1
    | some t => cases o' with
      | none => cases g2
      | some s => rw [RN.inj (ts := ts) g3 g4]
  obtain ⟨r, o, k1, ba, si, oa, ob⟩ := e
  obtain ⟨r', o', k1', ba', si', oa', ob'⟩ := e'
  have h3 := a3.symm.trans b3
  simp only [REff.mk.injEq] at h3
  obtain ⟨e1, e2, e3, e4, e5, e6⟩ := h3
  subst e1; subst e2; subst e3; subst e4; subst e5; subst e6
  have hfin : r = r' → oa = oa' → ob = ob' → (⟨r, o, k1, ba, si, oa, ob⟩ : SE) = ⟨r', o, k1, ba, si, oa', ob'⟩ := fun q0 q1 q2 => by rw [q0, q1, q2]
  rcases hw with ⟨w1, w2, w3, w4, w5, w6⟩ | ⟨w1, w0, w2⟩ <;> rcases hw' with ⟨v1, v2, v3, v4, v5, v6⟩ | ⟨v1, v0, v2⟩ <;> simp only at *
  · exact hfin (w1.trans v1.symm) (hso w5 v5 a1 b1) (hso w6 v6 a2 b2)
  · rcases v2 with v2 | v2 | v2 | v2 | v2 | v2 <;> (exfalso; have := v2.1; omega)
  · rcases w2 with w2 | w2 | w2 | w2 | w2 | w2 <;> (exfalso; have := w2.1; omega)
  · have hr := w1.trans v1.symm
    rcases w2 with ⟨u1, u2, u3, u4⟩ | ⟨u1, u3, u4⟩ | ⟨u1, u3, u4⟩ | ⟨u1, u2, u5, u3, u4⟩ | ⟨u1, u2, u5, u3, u4⟩ | ⟨u1, u2, u3, u4⟩ <;>
      rcases v2 with ⟨q1, q2, q3, q4⟩ | ⟨q1, q3, q4⟩ | ⟨q1, q3, q4⟩ | ⟨q1, q2, q5, q3, q4⟩ | ⟨q1, q2, q5, q3, q4⟩ | ⟨q1, q2, q3, q4⟩ <;> first
        | (exfalso; omega)
        | exact hfin hr (hso u3 q3 a1 b1) (u4.trans q4.symm)
        | exact hfin hr (hso u3 q3 a1 b1) (hso u4 q4 a2 b2)
        | exact hfin hr (u3.trans q3.symm) (u4.trans q4.symm)
theorem rinit_t (row : List Bool) : ∀ k, ∃ ts, RT ts (rinit row k).L ∧ All2 (RN ts) ((List.range k).map Tm.old) (rinit row k).xs ∧ All2 (RN ts) ((List.range k).map (sideT row)) (rinit row k).ys
  | 0 => ⟨[], ⟨List.nodup_nil, rfl, fun i t k h => by simp at h, fun n h => by simp at h⟩, trivial, trivial⟩
  | k + 1 => by
    obtain ⟨ts, h1, h2, h3⟩ := rinit_t row k
    obtain ⟨ts1, p1, g1, g2⟩ := h1.num (t := .old k) (k := RVal.reg k 0) rfl (fun n e => by cases e)
    have hk2 : RK ts1 (sideT row k) (RVal.reg k (sideR row k)) := by
      unfold sideT sideR
      cases (row[k]?).getD false <;> rfl
    obtain ⟨ts2, p2, g3, g4⟩ := g1.num (t := sideT row k) (k := RVal.reg k (sideR row k)) hk2 (fun n e => by
      unfold sideT at e
      revert e
      cases (row[k]?).getD false <;> (intro e; cases e))
    refine ⟨ts2, g3, ?_, ?_⟩
    · rw [List.range_succ, List.map_append]
      exact (h2.mono fun x y h => (h.ext p1).ext p2).snoc (g2.ext p2)
    · rw [List.range_succ, List.map_append]
      exact (h3.mono fun x y h => (h.ext p1).ext p2).snoc g4
end
theorem rsame_t {R : Nat} {old new : Block} {c : Cert} {i : Int} {next : List Int} (ho : ∀ t ∈ old.ins, TacT t R) (hn : ∀ t ∈ new.ins, TacT t R) (hc : ∀ r ∈ c.same, r.length = R) (hnx : ∀ k ∈ next, 0 ≤ k ∧ k < c.same.length) (hv : old.fin = 2 → (0 ≤ old.v ∧ old.v < R) ∧ (0 ≤ new.v ∧ new.v < R)) :
    rsame R old new c i next = tsame R old new c i next := by
  obtain ⟨ts0, q1, q2, q3⟩ := rinit_t (c.at' i) R
  have h0 : RS ts0 ⟨(rinit (c.at' i) R).L, (rinit (c.at' i) R).xs, [], 0⟩ ⟨symR R, [], 0⟩ := ⟨q1, q2, trivial, rfl⟩
  obtain ⟨ts1, hp1, h1⟩ := RS.fold ho h0 (symR_len R)
  have h2 : RS ts1 ⟨(rrunA R (c.at' i) old).L, (rinit (c.at' i) R).ys, [], 0⟩ ⟨symO R (c.at' i), [], 0⟩ := ⟨h1.t, q3.mono fun x y h => h.ext hp1, trivial, rfl⟩
  obtain ⟨ts2, hp2, h3⟩ := RS.fold hn h2 (symO_len R _)
  have hA1 : All2 (RN ts2) (srun (symR R) old.ins).regs (rrunA R (c.at' i) old).vw.vals := h1.regs.mono fun x y h => h.ext hp2
  have hA2 : All2 (RE ts2) (srun (symR R) old.ins).effs (rrunA R (c.at' i) old).out := h1.effs.mono fun x y h => h.ext hp2
  have hB1 : All2 (RN ts2) (srun (symO R (c.at' i)) new.ins).regs (rrunB R (c.at' i) old new).vw.vals := h3.regs
  have hB2 : All2 (RE ts2) (srun (symO R (c.at' i)) new.ins).effs (rrunB R (c.at' i) old new).out := h3.effs
  have lA := (srun_len (symR R) old.ins).trans (symR_len R)
  have lB := (srun_len (symO R (c.at' i)) new.ins).trans (symO_len R _)
  have hu : ∀ t n m, RN ts2 t n → RN ts2 t m → n = m := fun t n m a b => RN.uniq h3.t.nd a b
  have hi : ∀ t s n, RN ts2 t n → RN ts2 s n → t = s := fun t s n a b => RN.inj a b
  unfold rsame tsame
  congr 1
  · exact decide_eq_decide.2 (All2.iff (r := RE ts2) (r' := RE ts2) (p := SE.wf) (q := SE.wf) (fun e k k' _ a b => RE.uniq h3.t.nd a b) (fun e e' k p q a b => RE.inj p q a b) (srun_wf _ _) (srun_wf _ _) hA2 hB2)
  congr 1
  · by_cases hf : old.fin = 2
    · rw [show (rget (rrunA R (c.at' i) old).regs old.v == rget (rrunB R (c.at' i) old new).regs new.v) = _ from agree_eq (α := Unit) (R := R) hu hi hA1 hB1 lA lB (hv hf).1 (hv hf).2]
    · rw [show (old.fin == 2) = false by simpa using hf]; rfl
  · refine all_cong fun k hk => ?_
    have hkr := hnx k hk
    have hrow : (c.at' k).length = R := by
      obtain ⟨r, hr⟩ := get_of_lt (l := c.same) (k := k.toNat) (by omega)
      unfold Cert.at'
      rw [hr]
      exact hc r (List.mem_of_getElem? hr)
    exact vagree_t (R := R) hu hi hA1 hB1 lA lB hrow
end Go.Proofs.Ytpijoieooikfgaa.Sv

namespace Go.Proofs.Ytpijoieooikfgaa.Sv
open Go
theorem callOk_eq {t : Tac} (h : t.callOk = true) (h10 : t.op = 10) : t = callTac t.base ∧ 0 ≤ t.base := by
  unfold Tac.callOk at h
  rw [show (t.op != 10) = false by simp [h10], Bool.false_or, Bool.and_eq_true, decide_eq_true_eq] at h
  exact ⟨(Tac.same_iff _ _).1 h.2, h.1⟩
theorem stands_tact {f : BFunc} (h : f.stands = true) {x : Block} (hx : x ∈ f.blocks) {t : Tac} (ht : t ∈ x.ins) (hn : isW t.n) : TacT t f.regs.toNat := by
  have hS := stands_of h
  have hv := hS.tacs x hx t ht hn
  unfold BFunc.stands at h
  rw [Bool.and_eq_true] at h
  obtain ⟨h1, h2⟩ := h
  by_cases h10 : t.op = 10
  · have hok := List.all_eq_true.1 (List.all_eq_true.1 h1 x hx) t ht
    obtain ⟨e, _⟩ := callOk_eq hok h10
    exact ⟨hv, ⟨by omega, by omega⟩, fun e3 => by omega, by rw [e]; rfl⟩
  · simp only [Blocks.right, Bool.and_eq_true, decide_eq_true_eq, List.all_eq_true] at h2
    have h3 := h2.2.2.2 (f.bare, 0) (by simp)
    simp only [BFunc.one, Bool.and_eq_true, List.all_eq_true, BFunc.bare] at h3
    have h4 := h3.2.2.2 x.bare (List.mem_map.2 ⟨x, hx, rfl⟩)
    unfold Block.ok at h4
    rw [Bool.and_eq_true, List.all_eq_true] at h4
    have hf := h4.2 t (List.mem_filter.2 ⟨ht, by simpa using h10⟩)
    simp only [Tac.fits, Bool.and_eq_true, decide_eq_true_eq] at hf
    obtain ⟨f1, f2, f3, f4, f5, f6⟩ := hf
    refine ⟨hv, ⟨f1, f2⟩, fun e3 => ?_, (Tac.same_iff _ _).1 f6⟩
    unfold Tac.rest at f5
    rw [show (t.op == 3) = true by simp [e3]] at f5
    simpa using f5
def tblocks (old new : BFunc) (c : Cert) : Bool := (old.blocks.zip new.blocks).zipIdx.all fun p => tsame old.regs.toNat p.1.1 p.1.2 c (p.2 : Int) p.1.1.nexts
def tcheck (old new : BFunc) (c : Cert) : Bool := vshaped old new && (decide (c.same.length = old.blocks.length) && ((c.same.all fun r => decide ((r.length : Int) = old.regs)) && tblocks old new c))
def BFunc.words (f : BFunc) : Prop := ∀ x ∈ f.blocks, insW x.ins
theorem checks_t {old new : BFunc} {c : Cert} (ho : old.words) (hn : new.words) : vcheck old new c = tcheck old new c ∧ rcheck old new c = tcheck old new c := by
  unfold vcheck rcheck tcheck
  cases hs : vshaped old new with
  | false => exact ⟨rfl, rfl⟩
  | true =>
    have hV := vshaped_of hs
    have hSo := stands_of hV.so
    have hSn := stands_of hV.sn
    simp only [Bool.true_and]
    by_cases h1 : c.same.length = old.blocks.length
    · by_cases h2 : (c.same.all fun r => decide ((r.length : Int) = old.regs)) = true
      · have hR : ((old.regs.toNat : Nat) : Int) = old.regs := Int.toNat_of_nonneg hSo.r0
        have hc : ∀ r ∈ c.same, r.length = old.regs.toNat := fun r hr => by
          have := List.all_eq_true.1 h2 r hr
          simp only [decide_eq_true_eq] at this; omega
        have key : ∀ (p : (Block × Block) × Nat), p ∈ (old.blocks.zip new.blocks).zipIdx → (∀ t ∈ p.1.1.ins, TacT t old.regs.toNat) ∧ (∀ t ∈ p.1.2.ins, TacT t old.regs.toNat) ∧ (∀ k ∈ p.1.1.nexts, 0 ≤ k ∧ k < c.same.length) ∧ (p.1.1.fin = 2 → (0 ≤ p.1.1.v ∧ p.1.1.v < old.regs.toNat) ∧ (0 ≤ p.1.2.v ∧ p.1.2.v < old.regs.toNat)) := by
          rintro ⟨⟨x, y⟩, i⟩ hp
          obtain ⟨j, hj⟩ := List.mem_iff_getElem?.1 hp
          rw [List.getElem?_zipIdx, Option.map_eq_some_iff] at hj
          obtain ⟨q, hq, e⟩ := hj
          obtain ⟨x', y'⟩ := q
          simp only [Nat.zero_add, Prod.mk.injEq] at e
          obtain ⟨⟨rfl, rfl⟩, rfl⟩ := e
          rw [List.getElem?_zip_eq_some] at hq
          obtain ⟨hx, hy⟩ := hq
          have hxm := List.mem_of_getElem? hx
          have hym := List.mem_of_getElem? hy
          have hb := hV.b j x' y' hx hy
          refine ⟨fun t ht => stands_tact hV.so hxm ht (ho x' hxm t ht), fun t ht => ?_, fun k hk => ?_, fun hf => ?_⟩
          · rw [hV.regs]; exact stands_tact hV.sn hym ht (hn y' hym t ht)
          · rw [h1]; exact hSo.next x' hxm k hk
          · dsimp only at hf ⊢
            rw [hR]
            refine ⟨hSo.v x' hxm hf, ?_⟩
            rw [hV.regs]; exact hSn.v y' hym (by rw [← hb.1]; exact hf)
        constructor
        · congr 2
          unfold vblocks tblocks
          refine all_cong fun p hp => ?_
          obtain ⟨k1, k2, k3, k4⟩ := key p hp
          exact vsame_t k1 k2 hc k3 k4
        · unfold rsized
          rw [Bool.and_assoc]
          congr 2
          unfold rblocks tblocks
          refine all_cong fun p hp => ?_
          obtain ⟨k1, k2, k3, k4⟩ := key p hp
          exact rsame_t k1 k2 hc k3 k4
      · have h2' : (c.same.all fun r => decide ((r.length : Int) = old.regs)) = false := by simpa using h2
        unfold rsized
        rw [h2']
        simp
    · unfold rsized
      rw [decide_eq_false h1]
      exact ⟨rfl, rfl⟩
def insSum' (l : List Block) : Nat := (l.map fun x => x.ins.length).sum
def few34 (f : BFunc) (nb ni : Int) : Bool := decide ((f.blocks.length : Int) ≤ nb) && (decide (f.regs ≤ 40) && decide ((insSum' f.blocks : Int) ≤ ni))
theorem insSum_succ' {l : List Block} {k : Nat} {x : Block} (h : l[k]? = some x) : insSum' (l.take (k + 1)) = insSum' (l.take k) + x.ins.length := sum_succ h
theorem insSum_all (l : List Block) (k : Nat) : insSum' (l.take k) ≤ insSum' l := by
  induction l generalizing k with
  | nil => simp [insSum']
  | cons x l ih =>
    cases k with
    | zero => simp [insSum']
    | succ k =>
      have := ih k
      simp only [insSum', List.take_succ_cons, List.map_cons, List.sum_cons] at this ⊢
      omega
theorem ins_le' {l : List Block} {x : Block} (h : x ∈ l) : x.ins.length ≤ insSum' l := by
  induction l with
  | nil => simp at h
  | cons y l ih =>
    simp only [List.mem_cons] at h
    simp only [insSum', List.map_cons, List.sum_cons] at ih ⊢
    rcases h with rfl | h
    · omega
    · have := ih h; omega
theorem few34_of {f : BFunc} {nb ni : Int} (h : few34 f nb ni = true) : (f.blocks.length : Int) ≤ nb ∧ f.regs ≤ 40 ∧ ∀ x ∈ f.blocks, (x.ins.length : Int) ≤ ni := by
  simp only [few34, Bool.and_eq_true, decide_eq_true_eq] at h
  exact ⟨h.1, h.2.1, fun x hx => by have := ins_le' hx; omega⟩
def great34 (c : Cert) : Bool := (c.same.take 21).any (fun r => decide (60 < r.length)) || decide (20 < c.same.length)
def oneF (l : List Tac) : BFunc := ⟨3, [⟨l, 3, 0, 0, 0⟩]⟩
def noneC : Cert := ⟨[[false, false, false]]⟩
def tA : Tac := ⟨1, 1, 0, 0, 0, 0, 0, 2⟩
def tB : Tac := ⟨9, 0, 1, 0, 0, 0, 0, 0⟩
def tC : Tac := ⟨1, 0, 0, 0, 0, 0, 0, 5⟩
def tD : Tac := ⟨1, 1, 0, 0, 0, 0, 0, 1⟩
def tE : Tac := ⟨3, 2, 1, 1, 4, 0, 0, 0⟩
def tF : Tac := ⟨9, 0, 2, 0, 0, 0, 0, 0⟩
def tG : Tac := ⟨8, 0, 0, 0, 0, 0, 0, 0⟩
def tH : Tac := ⟨3, 1, 1, 2, 7, 0, 0, 0⟩
theorem one_ins (l : List Tac) (hl : l.length ≤ 10000) (hw : ∀ t ∈ l, 0 ≤ t.n ∧ t.n < 4294967296) : ∀ x ∈ (oneF l).blocks, x.ins.length ≤ 10000 ∧ insW x.ins := fun x hx => by
  have : x = ⟨l, 3, 0, 0, 0⟩ := by simpa [oneF] using hx
  subst this
  exact ⟨hl, fun t ht => hw t ht⟩
theorem aw1 : vcheck (oneF [tA, tB]) (oneF [tC, tA, tB]) noneC = true := by decide +kernel
theorem aw2 : vcheck (oneF [tA, tB]) (oneF [tD, tE, tF]) noneC = true := by decide +kernel
theorem aw3 : vcheck (oneF [tG]) (oneF []) noneC = false := by decide +kernel
theorem aw4 : vcheck (oneF []) (oneF [tG]) noneC = false := by decide +kernel
theorem aw5 : vcheck (oneF [tH]) (oneF []) noneC = false := by decide +kernel
theorem aw6 : vcheck (oneF [tA, tB]) (oneF []) noneC = false := by decide +kernel
theorem aw7 : vcheck (oneF [tG]) (oneF [tG]) (vweak (oneF [tG])) = true := by decide +kernel
theorem aw8 : vcheck (oneF [tA, tB]) (oneF [tA, tB]) ⟨[]⟩ = false := by decide +kernel
theorem great_yes {c : Cert} {k : Nat} {r : List Bool} (hr : c.same[k]? = some r) (hk : k ≤ 20) (h : 60 < r.length) : great34 c = true := by
  unfold great34
  rw [Bool.or_eq_true]
  refine .inl (List.any_eq_true.2 ⟨r, ?_, by simpa using h⟩)
  have : (c.same.take 21)[k]? = some r := by rw [List.getElem?_take, if_pos (by omega)]; exact hr
  exact List.mem_of_getElem? this
theorem great_end {c : Cert} {k : Nat} (hF : (c.same.take k).any (fun r => decide (60 < r.length)) = false) (hk : k ≤ c.same.length) (hk2 : k ≤ 21) (h : c.same.length ≤ k ∨ 20 < k) : great34 c = decide ((((c.same.map fun r => [boolsAV r]).length : Nat) : Int) > 20) := by
  have hl : c.same.take 21 = c.same.take k := by
    rcases h with h | h
    · rw [List.take_of_length_le (by omega), List.take_of_length_le (by omega)]
    · rw [show k = 21 by omega]
  unfold great34
  rw [hl, hF, Bool.false_or, List.length_map]
  exact decide_eq_decide.2 (by omega)
theorem weak_avoid {q : Nat → Bool} {n m k : Nat} (es : List (List Bool)) : (AObj.row false 1 ((es.take k).map rowCell ++ List.replicate (n - m) [AV.nil])).avoid q = true := by
  simp only [AObj.avoid, List.all_append, List.all_map, List.all_replicate, Bool.and_eq_true]
  refine ⟨List.all_eq_true.2 fun x _ => rfl, ?_⟩
  split <;> rfl
theorem weak_avoid2 {q : Nat → Bool} {n m k i : Nat} (es : List (List Bool)) (b : Nat) (hb : q b = true := by rfl) {u v w : Nat} : (AObj.row false 1 (((es.take k).map rowCell ++ List.replicate (n - m) [AV.nil]).set i [.ref b u v w])).avoid q = true := by
  simp only [AObj.avoid, List.all_eq_true]
  intro cs hc
  rcases List.mem_or_eq_of_mem_set hc with hc | rfl
  · simp only [List.mem_append, List.mem_map] at hc
    rcases hc with ⟨x, _, rfl⟩ | hc
    · intro y hy; simp [rowCell] at hy; subst hy; rfl
    · rw [List.eq_of_mem_replicate hc]; intro y hy; simp at hy; subst hy; rfl
  · intro y hy
    simp at hy; subst hy
    exact hb
theorem weak_pure {n k : Nat} {es : List (List Bool)} (hk : n ≤ k) : ∀ cs ∈ (es.take k).map rowCell ++ List.replicate (n - k) [AV.nil], cs.all AV.isPure1 = true := fun cs hc => by
  simp only [List.mem_append, List.mem_map] at hc
  rcases hc with ⟨x, _, rfl⟩ | hc
  · rfl
  · rw [List.eq_of_mem_replicate hc]; rfl
theorem get_set_self0 {es : List (List AV)} {i : Nat} {cs ds : List AV} (h : es[i]? = some cs) : (es.set i ds)[i]? = some ds := by
  have := (List.getElem?_eq_some_iff.1 h).1
  simp [this]
theorem APure.weak {P : Program} {f : FuncId} {xs xs' : List AV} {R : AV → Prop} (h : APure P f xs' R) (hw : ∀ (H : Know) (vs : Array Value), RelAll H noLay xs vs → RelAll H noLay xs' vs) : APure P f xs R := fun H w vs h1 h2 => h H w vs (hw H vs h1) h2
theorem nil_cert {a b : AV} (H : Know) (vs : Array Value) (h : RelAll H noLay [a, b, .agg [.nil]] vs) : RelAll H noLay [a, b, .agg (Cert.mk []).cells] vs := by
  refine ⟨h.1, fun j x v hx hv => ?_⟩
  match j, hx with
  | 0, hx => exact h.2 0 x v hx hv
  | 1, hx => exact h.2 1 x v hx hv
  | 2, hx =>
    simp at hx; subst hx
    have h0 := h.2 2 _ v rfl hv
    obtain ⟨us, rfl, h1, h2⟩ := h0.agg_inv
    refine .agg _ _ _ h1 fun i y u hy hu => ?_
    match i, hy with
    | 0, hy =>
      have e : y = .lst false [] := by simpa [Cert.cells, rowsAV] using hy.symm
      subst e
      rw [(h2 0 .nil u rfl hu).nil_inv]
      exact .lst0 _ _ _ _ (fun h => by cases h) (Nat.zero_le _) (fun _ => rfl) trivial
    | i + 1, hy => simp [Cert.cells] at hy
  | j + 3, hx => simp at hx
end Go.Proofs.Ytpijoieooikfgaa.Sv

namespace Go.Proofs.Ytpijoieooikfgaa.Sv
open Go
structure Cert.Ok (c : Cert) : Prop where
  len : c.same.length * 24 ≤ reachBytes
  rows : ∀ r ∈ c.same, r.length * 1 ≤ reachBytes
theorem Cert.Ok.lenB {c : Cert} (h : c.Ok) : c.same.length ≤ big := by
  have := h.len
  simp only [reachBytes] at this
  simp only [big]; omega
theorem BFunc.Ok.lenB {f : BFunc} (h : f.Ok) : f.blocks.length ≤ big := by
  have := h.len
  simp only [reachBytes] at this
  simp only [big]; omega
theorem BFunc.Ok.insB {f : BFunc} (h : f.Ok) : ∀ x ∈ f.blocks, x.ins.length ≤ big := fun x hx => by
  have := (h.blocks x hx).len
  simp only [reachBytes] at this
  simp only [big]; omega
theorem few_short {f : BFunc} (h : f.Ok) {nb ni : Int} (hb : nb ≤ 1000 := by decide) (hi : ni ≤ 1000 := by decide) (h1 : few34 f nb ni = true) : f.blocks.length ≤ 10000 ∧ ∀ x ∈ f.blocks, x.ins.length ≤ 10000 ∧ insW x.ins := by
  obtain ⟨a1, a2, a3⟩ := few34_of h1
  exact ⟨by omega, fun x hx => ⟨by have := a3 x hx; omega, h.insW hx⟩⟩
end Go.Proofs.Ytpijoieooikfgaa.Sv

namespace Go.Proofs.Ytpijoieooikfgaa
open Go.ChangeShapes Go.WideShapes Go.ChangeAt Go.RowKit Sv
section
variable {H : Type} {enc : TypeId × Value → H} {W : World}
theorem decBools : Dec enc Try.prog W 34 (fun l : List Bool => [boolsAV l]) (fun l => l.length * 1 ≤ reachBytes ∧ ∀ n ∈ l, True) := Dec.slice' (j := ty4) tok rfl rfl rfl (Nat.zero_lt_succ _) (Dec.bool' tok rfl rfl)
theorem decRows : Dec enc Try.prog W 25 (fun l : List (List Bool) => [rowsAV l]) (fun l => l.length * 24 ≤ reachBytes ∧ ∀ r ∈ l, r.length * 1 ≤ reachBytes) := fun fuel cs x h hw => by
  obtain ⟨l, h1, h2⟩ := Dec.slice' (j := ty34) tok rfl rfl rfl (Nat.zero_lt_succ _) decBools fuel cs x h hw
  exact ⟨l, h1, h2.1, fun p hp => (h2.2 p hp).1⟩
theorem decCert : Dec enc Try.prog W 27 Cert.cells Cert.Ok := fun fuel cs x h hw => by
  obtain ⟨hl, hp⟩ := struct_parts tok (i := ty27) rfl rfl h hw
  have hl' : cs.length = 1 := hl
  obtain ⟨x0, a0, b0⟩ := hp 0 _ _ rfl decRows
  have c0 := app1 tok (n := 1) rfl rfl (Reads.nil W cs) a0 (by omega)
  exact ⟨⟨x0⟩, c0.all hl', ⟨b0.1, b0.2⟩⟩
end
theorem okWide_aggA {P : Program} {W : World} {t e n b0 : Nat} {v : Value} (ht : P.underlying t = some (.array n e)) (h : Value.okWide P W .any b0 t v) : ∃ cs, v = .agg cs := by
  unfold Value.okWide at h
  rw [ht] at h
  obtain ⟨cs, h1, _⟩ := h
  exact ⟨cs, h1⟩
end Go.Proofs.Ytpijoieooikfgaa

namespace Go.Proofs.Ytpijoieooikfgaa
open Go.ChangeShapes Go.WideShapes Go.ChangeAt Go.RowKit Sv
structure Funcs2 where
  a : BFunc
  b : BFunc
def Funcs2.cells (p : Funcs2) : List AV := p.a.cells ++ p.b.cells
def Funcs2.Ok (p : Funcs2) : Prop := p.a.Ok ∧ p.b.Ok
theorem funcs2T : Try.prog.underlying 38 = some (.array 2 24) := by kernel_rfl
section
variable {H : Type} {enc : TypeId × Value → H} {W : World}
theorem decFuncs2 : Dec enc Try.prog W 38 Funcs2.cells Funcs2.Ok := fun fuel cs x h hw => by
  have hc : Try.prog.cellsOf 24 = 2 := by kernel_rfl
  have hct : Try.prog.cellsOf 38 = 4 := by kernel_rfl
  obtain ⟨xs, m, rfl, rfl, hl, hxl, hx⟩ := DataW.trod_array funcs2T h
  rw [hct] at hl
  simp only [DataW.weights, funcs2T] at hw
  have key : ∀ i, i < 2 → ∃ f : BFunc, Reads W ((cs.drop (i * 2)).take 2) f.cells ∧ f.Ok := fun i hi => by
    have h1 := hx i hi
    rw [hc, List.getElem?_eq_getElem (by omega)] at h1
    exact decBFunc _ _ _ h1 (weightsAll_get hw (i := i) (by rw [List.getElem?_map, List.getElem?_eq_getElem (by omega)]; rfl))
  obtain ⟨a, a1, a2⟩ := key 0 (by omega)
  obtain ⟨b, b1, b2⟩ := key 1 (by omega)
  exact ⟨⟨a, b⟩, (((Reads.nil W cs).app a1 (by omega)).app b1 (by omega)) |>.all hl, a2, b2⟩
end
end Go.Proofs.Ytpijoieooikfgaa

namespace Go.Proofs.Ytpijoieooikfgaa.Sv
open Go
def Tm.ren (row : List Bool) : Tm → Tm
  | .old v => sideT row v
  | .own v => .own v
  | .cst n => .cst n
  | .op k a b => .op k (a.ren row) (b.ren row)
  | .ld b τ => .ld b τ
  | .unk n => .unk n
def Tm.pure (R : Nat) : Tm → Prop
  | .old v => v < R
  | .own _ => False
  | .op _ a b => a.pure R ∧ b.pure R
  | _ => True
def Tm.inR (row : List Bool) : Tm → Prop
  | .old v => row[v]? = some true
  | .own _ => False
  | .op _ a b => a.inR row ∧ b.inR row
  | _ => True
theorem Tm.ren_iff {R : Nat} {row : List Bool} (hr : row.length = R) : ∀ {t s : Tm}, t.pure R → s.pure R → (s = t.ren row ↔ s = t ∧ t.inR row)
  | .old v, s, ht, hs => by
    have hv : v < row.length := by rw [hr]; exact ht
    obtain ⟨b, hb⟩ := get_of_lt hv
    have e : (Tm.old v).ren row = sideT row v := rfl
    have hi : (Tm.old v).inR row ↔ row[v]? = some true := Iff.rfl
    rw [e, hi, hb]
    unfold sideT
    rw [hb]
    cases b with
    | true => simp
    | false =>
      simp only [Option.getD_some, cond_false, Option.some.injEq, Bool.false_eq_true, and_false, iff_false]
      intro h; subst h; exact hs.elim
  | .own v, s, ht, hs => ht.elim
  | .cst n, s, ht, hs => by simp [Tm.ren, Tm.inR]
  | .ld b τ, s, ht, hs => by simp [Tm.ren, Tm.inR]
  | .unk n, s, ht, hs => by simp [Tm.ren, Tm.inR]
  | .op k a b, s, ht, hs => by
    constructor
    · intro h
      cases s with
      | op k' a' b' =>
        simp only [Tm.ren, Tm.op.injEq] at h
        obtain ⟨h1, h2, h3⟩ := h
        obtain ⟨g1, g2⟩ := (Tm.ren_iff hr ht.1 hs.1).1 h2
        obtain ⟨g3, g4⟩ := (Tm.ren_iff hr ht.2 hs.2).1 h3
        exact ⟨by rw [h1, g1, g3], g2, g4⟩
      | _ => simp [Tm.ren] at h
    · rintro ⟨rfl, h1, h2⟩
      simp only [Tm.ren, Tm.op.injEq, true_and]
      exact ⟨(Tm.ren_iff hr ht.1 ht.1).2 ⟨rfl, h1⟩, (Tm.ren_iff hr ht.2 ht.2).2 ⟨rfl, h2⟩⟩
def oren (row : List Bool) : Option Tm → Option Tm := Option.map (Tm.ren row)
def SE.ren (row : List Bool) (e : SE) : SE := { e with a := oren row e.a, b := oren row e.b }
def opure (R : Nat) : Option Tm → Prop
  | none => True
  | some t => t.pure R
def oinR (row : List Bool) : Option Tm → Prop
  | none => True
  | some t => t.inR row
def SE.pure (R : Nat) (e : SE) : Prop := opure R e.a ∧ opure R e.b
def SE.inR (row : List Bool) (e : SE) : Prop := oinR row e.a ∧ oinR row e.b
theorem oren_iff {R : Nat} {row : List Bool} (hr : row.length = R) {t s : Option Tm} (ht : opure R t) (hs : opure R s) : s = oren row t ↔ s = t ∧ oinR row t := by
  cases t with
  | none => simp [oren, oinR]
  | some t =>
    cases s with
    | none => simp [oren]
    | some s =>
      simp only [oren, Option.map_some, Option.some.injEq]
      exact Tm.ren_iff hr ht hs
theorem SE.ren_iff {R : Nat} {row : List Bool} (hr : row.length = R) {e f : SE} (he : e.pure R) (hf : f.pure R) : f = e.ren row ↔ f = e ∧ e.inR row := by
  have h1 := oren_iff hr he.1 hf.1
  have h2 := oren_iff hr he.2 hf.2
  cases e with
  | mk r o k ba si a b =>
    cases f with
    | mk r' o' k' ba' si' a' b' =>
      simp only [SE.ren, SE.mk.injEq, SE.inR] at h1 h2 ⊢
      rw [h1, h2]
      constructor
      · rintro ⟨e1, e2, e3, e4, e5, ⟨e6, e7⟩, e8, e9⟩; exact ⟨⟨e1, e2, e3, e4, e5, e6, e8⟩, e7, e9⟩
      · rintro ⟨⟨e1, e2, e3, e4, e5, e6, e8⟩, e7, e9⟩; exact ⟨e1, e2, e3, e4, e5, ⟨e6, e7⟩, e8, e9⟩
theorem effs_ren {R : Nat} {row : List Bool} (hr : row.length = R) : ∀ {l m : List SE}, (∀ e ∈ l, e.pure R) → (∀ e ∈ m, e.pure R) → (l = m.map (SE.ren row) ↔ l = m ∧ ∀ e ∈ m, e.inR row)
  | [], [], _, _ => by simp
  | [], e :: m, _, _ => by simp
  | f :: l, [], _, _ => by simp
  | f :: l, e :: m, hl, hm => by
    have ih := effs_ren hr (l := l) (m := m) (fun x hx => hl x (by simp [hx])) (fun x hx => hm x (by simp [hx]))
    have h1 := SE.ren_iff hr (hm e (by simp)) (hl f (by simp))
    simp only [List.map_cons, List.cons.injEq, h1, ih, List.mem_cons, forall_eq_or_imp]
    constructor
    · rintro ⟨⟨e1, e2⟩, e3, e4⟩; exact ⟨⟨e1, e3⟩, e2, e4⟩
    · rintro ⟨⟨e1, e3⟩, e2, e4⟩; exact ⟨⟨e1, e2⟩, e3, e4⟩
def SS.ren (row : List Bool) (s : SS) : SS := ⟨s.regs.map (Tm.ren row), s.effs.map (SE.ren row), s.time⟩
structure SS.pure (R : Nat) (s : SS) : Prop where
  regs : ∀ t ∈ s.regs, t.pure R
  effs : ∀ e ∈ s.effs, e.pure R
theorem tget_ren (row : List Bool) (l : List Tm) (z : Int) : tget (l.map (Tm.ren row)) z = (tget l z).ren row := by
  unfold tget
  rw [List.getElem?_map]
  cases l[z.toNat]? <;> rfl
theorem tset_ren (row : List Bool) (l : List Tm) (z : Int) (t : Tm) : tset (l.map (Tm.ren row)) z (t.ren row) = (tset l z t).map (Tm.ren row) := by
  unfold tset; rw [List.map_set]
theorem side_cases (row : List Bool) (v : Nat) : sideT row v = .old v ∨ sideT row v = .own v := by
  unfold sideT; cases (row[v]?).getD false <;> simp
theorem Tm.isZero_ren (row : List Bool) (t : Tm) : (t.ren row).isZero = t.isZero := by
  cases t with
  | old v => rcases side_cases row v with h | h <;> (show (sideT row v).isZero = true; rw [h]; rfl)
  | _ => rfl
theorem tfold_ren (row : List Bool) (k : Int) (a b : Tm) : tfold k (a.ren row) (b.ren row) = (tfold k a b).ren row := by
  have hop : ∀ x y : Tm, (∀ n, x ≠ .cst n) ∨ (∀ n, y ≠ .cst n) → tfold k x y = .op k x y := fun x y h => by
    cases x <;> cases y <;> first | rfl | (exfalso; rcases h with h | h <;> exact h _ rfl)
  have hne : ∀ t : Tm, (∀ n, t ≠ .cst n) → ∀ n, t.ren row ≠ .cst n := fun t h n e => by
    cases t with
    | old v => rcases side_cases row v with g | g <;> (rw [show (Tm.old v).ren row = sideT row v from rfl, g] at e; cases e)
    | cst m => exact h m rfl
    | _ => cases e
  by_cases ha : ∃ x, a = .cst x
  · obtain ⟨x, rfl⟩ := ha
    by_cases hb : ∃ y, b = .cst y
    · obtain ⟨y, rfl⟩ := hb
      show tfold k (.cst x) (.cst y) = _
      simp only [tfold]
      cases trisky k (.cst y) <;> rfl
    · have hb' : ∀ n, b ≠ .cst n := fun n e => hb ⟨n, e⟩
      rw [hop _ _ (.inr hb'), hop _ _ (.inr (hne b hb'))]; rfl
  · have ha' : ∀ n, a ≠ .cst n := fun n e => ha ⟨n, e⟩
    rw [hop _ _ (.inl ha'), hop _ _ (.inl (hne a ha'))]; rfl
theorem trisky_ren (row : List Bool) (k : Int) (b : Tm) : trisky k (b.ren row) = trisky k b := by unfold trisky; rw [Tm.isZero_ren]
theorem SS.put_ren (row : List Bool) (s : SS) (z : Int) (t : Tm) : (s.ren row).put z (t.ren row) = (s.put z t).ren row := by
  simp only [SS.put, SS.ren, tset_ren]
theorem SS.eff_ren (row : List Bool) (s : SS) (e : SE) : (s.ren row).eff (e.ren row) = (s.eff e).ren row := by
  simp [SS.eff, SS.ren]
theorem SS.get_ren (row : List Bool) (s : SS) (t : Tac) (e : SE) : (s.ren row).get t (e.ren row) = (s.get t e).ren row := by
  unfold SS.get
  rw [SS.eff_ren, ← SS.put_ren]
  simp [SS.ren, Tm.ren]
theorem SS.step_ren (row : List Bool) (s : SS) (t : Tac) : (s.ren row).step t = (s.step t).ren row := by
  have hg : ∀ z, tget (s.ren row).regs z = (tget s.regs z).ren row := fun z => tget_ren row s.regs z
  unfold SS.step
  cases t.op == 1 with
  | true => exact SS.put_ren row s t.d (.cst t.n)
  | false =>
  cases t.op == 2 with
  | true => simp only [cond_true, cond_false]; rw [hg]; exact SS.put_ren row s t.d _
  | false =>
  cases t.op == 3 with
  | true =>
    simp only [cond_true, cond_false]
    unfold SS.bin
    have hd : (s.ren row).div t = (s.div t).ren row := by
      unfold SS.div
      rw [hg, hg, trisky_ren]
      cases trisky t.k (tget s.regs t.b) with
      | true => exact SS.eff_ren row s ⟨true, 3, t.k, 0, 0, some (tget s.regs t.a), some (tget s.regs t.b)⟩
      | false => rfl
    rw [hd, hg, hg, tfold_ren]
    exact SS.put_ren row (s.div t) t.d _
  | false =>
  cases t.op == 4 with
  | true => exact SS.put_ren row s t.d (.ld t.base s.time)
  | false =>
  cases t.op == 5 with
  | true =>
    simp only [cond_true, cond_false]
    rw [hg]
    exact congrArg SS.tick (SS.eff_ren row s ⟨false, 5, 0, t.base, 0, some (tget s.regs t.a), none⟩)
  | false =>
  cases t.op == 6 with
  | true =>
    simp only [cond_true, cond_false]
    rw [hg]
    exact SS.get_ren row s t ⟨false, 6, 0, t.base, t.size, some (tget s.regs t.a), none⟩
  | false =>
  cases t.op == 7 with
  | true =>
    simp only [cond_true, cond_false]
    rw [hg, hg]
    exact congrArg SS.tick (SS.eff_ren row s ⟨false, 7, 0, t.base, t.size, some (tget s.regs t.a), some (tget s.regs t.b)⟩)
  | false =>
  cases t.op == 8 with
  | true => exact SS.get_ren row s t ⟨false, 8, 0, 0, 0, none, none⟩
  | false =>
  cases t.op == 9 with
  | true =>
    simp only [cond_true, cond_false]
    rw [hg]
    exact SS.eff_ren row s ⟨false, 9, 0, 0, 0, some (tget s.regs t.a), none⟩
  | false => exact congrArg SS.tick (SS.eff_ren row s ⟨false, 10, 0, t.base, 0, none, none⟩)
theorem srun_ren (R : Nat) (row : List Bool) (l : List Tac) : srun (symO R row) l = (srun (symR R) l).ren row := by
  have h0 : (⟨symO R row, [], 0⟩ : SS) = (⟨symR R, [], 0⟩ : SS).ren row := by
    simp [SS.ren, symO, symR, Tm.ren]
  unfold srun
  rw [h0]
  generalize (⟨symR R, [], 0⟩ : SS) = s
  induction l generalizing s with
  | nil => rfl
  | cons t l ih => rw [List.foldl_cons, List.foldl_cons, SS.step_ren, ih]
theorem tget_pure {R : Nat} {l : List Tm} (h : ∀ t ∈ l, t.pure R) (z : Int) : (tget l z).pure R := by
  unfold tget
  cases e : l[z.toNat]? with
  | none => exact trivial
  | some t => exact h t (List.mem_of_getElem? e)
theorem tset_pure {R : Nat} {l : List Tm} (h : ∀ t ∈ l, t.pure R) (z : Int) {t : Tm} (ht : t.pure R) : ∀ x ∈ tset l z t, x.pure R := fun x hx => by
  unfold tset at hx
  rcases List.mem_or_eq_of_mem_set hx with hx | rfl
  · exact h x hx
  · exact ht
theorem tfold_pure {R : Nat} {k : Int} {a b : Tm} (ha : a.pure R) (hb : b.pure R) : (tfold k a b).pure R := by
  have hop : (Tm.op k a b).pure R := ⟨ha, hb⟩
  cases a with
  | cst x =>
    cases b with
    | cst y =>
      simp only [tfold]
      cases trisky k (.cst y) with
      | true => exact hop
      | false => exact trivial
    | _ => exact hop
  | _ => exact hop
theorem SS.pure.put_pure {R : Nat} {s : SS} (h : s.pure R) (z : Int) {t : Tm} (ht : t.pure R) : (s.put z t).pure R := ⟨tset_pure h.regs z ht, h.effs⟩
theorem SS.pure.eff_pure {R : Nat} {s : SS} (h : s.pure R) {e : SE} (he : e.pure R) : (s.eff e).pure R := ⟨h.regs, fun x hx => by
  have hx' : x ∈ s.effs ++ [e] := hx
  simp only [List.mem_append, List.mem_singleton] at hx'
  rcases hx' with hx' | rfl
  · exact h.effs x hx'
  · exact he⟩
theorem SS.pure.step_pure {R : Nat} {s : SS} (h : s.pure R) (t : Tac) : (s.step t).pure R := by
  have hg := fun z => tget_pure h.regs z
  have hp := fun (z : Int) (t : Tm) (ht : t.pure R) => h.put_pure z ht
  unfold SS.step
  cases t.op == 1 with
  | true => exact hp _ (.cst t.n) trivial
  | false =>
  cases t.op == 2 with
  | true => exact hp _ _ (hg _)
  | false =>
  cases t.op == 3 with
  | true =>
    have hd : (s.div t).pure R := by
      unfold SS.div
      cases trisky t.k (tget s.regs t.b) with
      | true => exact h.eff_pure ⟨hg _, hg _⟩
      | false => exact h
    exact hd.put_pure _ (tfold_pure (hg _) (hg _))
  | false =>
  cases t.op == 4 with
  | true => exact hp _ (.ld t.base s.time) trivial
  | false =>
  cases t.op == 5 with
  | true => exact ⟨(h.eff_pure (e := ⟨false, 5, 0, t.base, 0, some (tget s.regs t.a), none⟩) ⟨hg _, trivial⟩).regs, (h.eff_pure (e := ⟨false, 5, 0, t.base, 0, some (tget s.regs t.a), none⟩) ⟨hg _, trivial⟩).effs⟩
  | false =>
  cases t.op == 6 with
  | true => exact (h.eff_pure (e := ⟨false, 6, 0, t.base, t.size, some (tget s.regs t.a), none⟩) ⟨hg _, trivial⟩).put_pure _ (t := .unk s.effs.length) trivial
  | false =>
  cases t.op == 7 with
  | true => exact ⟨(h.eff_pure (e := ⟨false, 7, 0, t.base, t.size, some (tget s.regs t.a), some (tget s.regs t.b)⟩) ⟨hg _, hg _⟩).regs, (h.eff_pure (e := ⟨false, 7, 0, t.base, t.size, some (tget s.regs t.a), some (tget s.regs t.b)⟩) ⟨hg _, hg _⟩).effs⟩
  | false =>
  cases t.op == 8 with
  | true => exact (h.eff_pure (e := ⟨false, 8, 0, 0, 0, none, none⟩) ⟨trivial, trivial⟩).put_pure _ (t := .unk s.effs.length) trivial
  | false =>
  cases t.op == 9 with
  | true => exact h.eff_pure ⟨hg _, trivial⟩
  | false => exact ⟨(h.eff_pure (e := ⟨false, 10, 0, t.base, 0, none, none⟩) ⟨trivial, trivial⟩).regs, (h.eff_pure (e := ⟨false, 10, 0, t.base, 0, none, none⟩) ⟨trivial, trivial⟩).effs⟩
theorem srun_pure (R : Nat) (l : List Tac) : (srun (symR R) l).pure R := by
  unfold srun
  have h0 : (⟨symR R, [], 0⟩ : SS).pure R := ⟨fun t ht => by
    simp only [symR, List.mem_map, List.mem_range] at ht
    obtain ⟨v, hv, rfl⟩ := ht
    exact hv, fun e he => by simp at he⟩
  generalize (⟨symR R, [], 0⟩ : SS) = s at *
  induction l generalizing s with
  | nil => exact h0
  | cons t l ih => exact ih _ (h0.step_pure t)
def gsame (R : Nat) (x y : Block) (c : Cert) (i : Int) (next : List Int) : Prop :=
  (srun (symR R) x.ins).effs = (srun (symR R) y.ins).effs ∧ (∀ e ∈ (srun (symR R) y.ins).effs, e.inR (c.at' i)) ∧
  (x.fin = 2 → tget (srun (symR R) x.ins).regs x.v = tget (srun (symR R) y.ins).regs y.v ∧ (tget (srun (symR R) y.ins).regs y.v).inR (c.at' i)) ∧
  ∀ k ∈ next, ∀ j : Nat, (c.at' k)[j]? = some true → tget (srun (symR R) x.ins).regs (j : Int) = tget (srun (symR R) y.ins).regs (j : Int) ∧ (tget (srun (symR R) y.ins).regs (j : Int)).inR (c.at' i)
theorem tagree_iff {x y : List Tm} {row : List Bool} : tagree x y row = true ↔ ∀ j : Nat, row[j]? = some true → tget x (j : Int) = tget y (j : Int) := by
  unfold tagree
  rw [List.all_eq_true]
  constructor
  · intro h j hb
    have := h (true, j) (List.mem_of_getElem? (zipIdx_get hb))
    simpa using this
  · rintro h ⟨b, j⟩ hp
    obtain ⟨i, hi⟩ := List.mem_iff_getElem?.1 hp
    rw [List.getElem?_zipIdx, Option.map_eq_some_iff] at hi
    obtain ⟨b', hb', e⟩ := hi
    simp only [Nat.zero_add, Prod.mk.injEq] at e
    obtain ⟨rfl, rfl⟩ := e
    cases b' with
    | false => rfl
    | true => simpa using h _ hb'
theorem tsame_iff {R : Nat} {x y : Block} {c : Cert} {i : Int} {next : List Int} (hr : (c.at' i).length = R) : tsame R x y c i next = true ↔ gsame R x y c i next := by
  have hx := srun_pure R x.ins
  have hy := srun_pure R y.ins
  unfold tsame gsame
  rw [srun_ren, Bool.and_eq_true, Bool.and_eq_true, decide_eq_true_eq, List.all_eq_true]
  have h1 : (srun (symR R) x.ins).effs = ((srun (symR R) y.ins).ren (c.at' i)).effs ↔ _ := effs_ren hr hx.effs hy.effs
  rw [h1, and_assoc]
  refine and_congr_right fun _ => and_congr_right fun _ => ?_
  have h2 : ∀ z z', tget (srun (symR R) x.ins).regs z = tget ((srun (symR R) y.ins).ren (c.at' i)).regs z' ↔ tget (srun (symR R) x.ins).regs z = tget (srun (symR R) y.ins).regs z' ∧ (tget (srun (symR R) y.ins).regs z').inR (c.at' i) := fun z z' => by
    rw [show ((srun (symR R) y.ins).ren (c.at' i)).regs = (srun (symR R) y.ins).regs.map (Tm.ren (c.at' i)) from rfl, tget_ren]
    exact Tm.ren_iff hr (tget_pure hy.regs _) (tget_pure hx.regs _)
  refine and_congr ?_ (forall_congr' fun k => imp_congr_right fun _ => ?_)
  · rw [Bool.or_eq_true, decide_eq_true_eq, h2]
    by_cases hf : x.fin = 2
    · simp [hf]
    · simp [hf]
  · rw [tagree_iff]
    exact forall_congr' fun j => imp_congr_right fun _ => h2 _ _
structure GCheck (old new : BFunc) (c : Cert) : Prop where
  sh : vshaped old new = true
  len : c.same.length = old.blocks.length
  rows : ∀ r ∈ c.same, (r.length : Int) = old.regs
  b : ∀ (k : Nat) (x y : Block), old.blocks[k]? = some x → new.blocks[k]? = some y → gsame old.regs.toNat x y c (k : Int) x.nexts
theorem cert_row {c : Cert} {R : Nat} (h : ∀ r ∈ c.same, r.length = R) {k : Int} (hk : 0 ≤ k ∧ k < c.same.length) : (c.at' k).length = R := by
  obtain ⟨r, hr⟩ := get_of_lt (l := c.same) (k := k.toNat) (by omega)
  unfold Cert.at'
  rw [hr]
  exact h r (List.mem_of_getElem? hr)
theorem tcheck_iff {old new : BFunc} {c : Cert} : tcheck old new c = true ↔ GCheck old new c := by
  unfold tcheck
  simp only [Bool.and_eq_true, decide_eq_true_eq, List.all_eq_true]
  have key : vshaped old new = true → c.same.length = old.blocks.length → (∀ r ∈ c.same, (r.length : Int) = old.regs) → ∀ (k : Nat) (x : Block), old.blocks[k]? = some x → (c.at' (k : Int)).length = old.regs.toNat := fun hs hl hr k x hx => by
    have h0 := (stands_of (vshaped_of hs).so).r0
    have hk := (List.getElem?_eq_some_iff.1 hx).1
    exact cert_row (fun r h => by have := hr r h; omega) (by omega)
  constructor
  · rintro ⟨h1, h2, h3, h4⟩
    refine ⟨h1, h2, h3, fun k x y hx hy => ?_⟩
    unfold tblocks at h4
    rw [List.all_eq_true] at h4
    exact (tsame_iff (key h1 h2 h3 k x hx)).1 (h4 ((x, y), k) (List.mem_of_getElem? (zipIdx_get (zip_at hx hy))))
  · rintro ⟨h1, h2, h3, h4⟩
    refine ⟨h1, h2, h3, ?_⟩
    unfold tblocks
    rw [List.all_eq_true]
    rintro ⟨⟨x, y⟩, i⟩ hp
    obtain ⟨j, hj⟩ := List.mem_iff_getElem?.1 hp
    rw [List.getElem?_zipIdx, Option.map_eq_some_iff] at hj
    obtain ⟨q, hq, e⟩ := hj
    obtain ⟨x', y'⟩ := q
    simp only [Nat.zero_add, Prod.mk.injEq] at e
    obtain ⟨⟨rfl, rfl⟩, rfl⟩ := e
    rw [List.getElem?_zip_eq_some] at hq
    exact (tsame_iff (key h1 h2 h3 j x' hq.1)).2 (h4 j x' y' hq.1 hq.2)
theorem vcheck_iff {old new : BFunc} {c : Cert} (ho : old.words) (hn : new.words) : vcheck old new c = true ↔ GCheck old new c := by
  rw [(checks_t ho hn).1]; exact tcheck_iff
theorem vshaped_symm {old new : BFunc} (h : vshaped old new = true) : vshaped new old = true := by
  have hV := vshaped_of h
  refine vshaped_yes hV.regs.symm hV.len.symm hV.sn hV.so ?_
  rw [List.all_eq_true]
  rintro ⟨y, x⟩ hp
  obtain ⟨k, hk⟩ := List.mem_iff_getElem?.1 hp
  rw [List.getElem?_zip_eq_some] at hk
  obtain ⟨e1, e2, e3⟩ := hV.b k x y hk.2 hk.1
  simp [shapeB, e1, e2, e3]
theorem nexts_same {x y : Block} (h : x.fin = y.fin ∧ x.to = y.to ∧ x.els = y.els) : x.nexts = y.nexts := by
  unfold Block.nexts; rw [h.1, h.2.1, h.2.2]
theorem GCheck.symm {old new : BFunc} {c : Cert} (h : GCheck old new c) : GCheck new old c := by
  have hV := vshaped_of h.sh
  refine ⟨vshaped_symm h.sh, h.len.trans hV.len, fun r hr => by rw [← hV.regs]; exact h.rows r hr, fun k y x hy hx => ?_⟩
  have hb := hV.b k x y hx hy
  obtain ⟨g1, g2, g3, g4⟩ := h.b k x y hx hy
  rw [← hV.regs]
  refine ⟨g1.symm, by rw [g1]; exact g2, fun hf => ?_, fun q hq j hj => ?_⟩
  · obtain ⟨a1, a2⟩ := g3 (hb.1.trans hf)
    exact ⟨a1.symm, by rw [a1]; exact a2⟩
  · obtain ⟨a1, a2⟩ := g4 q (by rw [nexts_same hb]; exact hq) j hj
    exact ⟨a1.symm, by rw [a1]; exact a2⟩
def andC (c d : Cert) : Cert := ⟨(c.same.zip d.same).map fun p => (p.1.zip p.2).map fun q => q.1 && q.2⟩
theorem andC_at {c d : Cert} {k : Int} {j : Nat} (hk : 0 ≤ k ∧ k < c.same.length) (hl : c.same.length = d.same.length) : ((andC c d).at' k)[j]? = some true ↔ (c.at' k)[j]? = some true ∧ (d.at' k)[j]? = some true := by
  obtain ⟨r, hr⟩ := get_of_lt (l := c.same) (k := k.toNat) (by omega)
  obtain ⟨s, hs⟩ := get_of_lt (l := d.same) (k := k.toNat) (by omega)
  unfold Cert.at' andC
  rw [List.getElem?_map, zip_at hr hs, hr, hs]
  simp only [Option.map_some, Option.getD_some, List.getElem?_map]
  cases e1 : r[j]? with
  | none =>
    have : (r.zip s)[j]? = none := by
      rw [List.getElem?_eq_none_iff] at e1 ⊢
      rw [List.length_zip]; omega
    rw [this]; simp
  | some a =>
    cases e2 : s[j]? with
    | none =>
      have : (r.zip s)[j]? = none := by
        rw [List.getElem?_eq_none_iff] at e2 ⊢
        rw [List.length_zip]; omega
      rw [this]; simp
    | some b => rw [zip_at e1 e2]; simp
theorem Tm.inR_and {r s t : List Bool} (h : ∀ j : Nat, r[j]? = some true → s[j]? = some true → t[j]? = some true) : ∀ {x : Tm}, x.inR r → x.inR s → x.inR t
  | .old v, h1, h2 => h v h1 h2
  | .own _, h1, _ => h1.elim
  | .op _ a b, h1, h2 => ⟨Tm.inR_and h h1.1 h2.1, Tm.inR_and h h1.2 h2.2⟩
  | .cst _, _, _ => trivial
  | .ld _ _, _, _ => trivial
  | .unk _, _, _ => trivial
theorem oinR_and {r s t : List Bool} (h : ∀ j : Nat, r[j]? = some true → s[j]? = some true → t[j]? = some true) {x : Option Tm} (h1 : oinR r x) (h2 : oinR s x) : oinR t x := by
  cases x with
  | none => trivial
  | some x => exact Tm.inR_and h h1 h2
theorem vshaped_trans {a b c : BFunc} (h1 : vshaped a b = true) (h2 : vshaped b c = true) : vshaped a c = true := by
  have hV := vshaped_of h1
  have hW := vshaped_of h2
  refine vshaped_yes (hV.regs.trans hW.regs) (hV.len.trans hW.len) hV.so hW.sn ?_
  rw [List.all_eq_true]
  rintro ⟨x, z⟩ hp
  obtain ⟨k, hk⟩ := List.mem_iff_getElem?.1 hp
  rw [List.getElem?_zip_eq_some] at hk
  obtain ⟨y, hy⟩ := get_of_lt (l := b.blocks) (k := k) (by rw [← hV.len]; exact (List.getElem?_eq_some_iff.1 hk.1).1)
  obtain ⟨e1, e2, e3⟩ := hV.b k x y hk.1 hy
  obtain ⟨f1, f2, f3⟩ := hW.b k y z hy hk.2
  simp [shapeB, e1, e2, e3, f1, f2, f3]
theorem GCheck.trans {a b c : BFunc} {e f : Cert} (h1 : GCheck a b e) (h2 : GCheck b c f) : GCheck a c (andC e f) := by
  have hV := vshaped_of h1.sh
  have hW := vshaped_of h2.sh
  have hS := stands_of hV.so
  have hll : e.same.length = f.same.length := by rw [h1.len, h2.len, hV.len]
  refine ⟨vshaped_trans h1.sh h2.sh, by simp [andC, hll, h2.len, hV.len], fun r hr => ?_, fun k x z hx hz => ?_⟩
  · simp only [andC, List.mem_map] at hr
    obtain ⟨⟨p, q⟩, hpq, rfl⟩ := hr
    have hp := h1.rows p (List.of_mem_zip hpq).1
    have hq := h2.rows q (List.of_mem_zip hpq).2
    rw [← hV.regs] at hq
    simp only [List.length_map, List.length_zip]
    omega
  · have hk := (List.getElem?_eq_some_iff.1 hx).1
    obtain ⟨y, hy⟩ := get_of_lt (l := b.blocks) (k := k) (by rw [← hV.len]; exact hk)
    have hb := hV.b k x y hx hy
    obtain ⟨g1, g2, g3, g4⟩ := h1.b k x y hx hy
    have hq := h2.b k y z hy hz
    rw [← hV.regs] at hq
    obtain ⟨q1, q2, q3, q4⟩ := hq
    have hkk : 0 ≤ (k : Int) ∧ (k : Int) < e.same.length := by rw [h1.len]; omega
    have hand : ∀ j, (e.at' (k : Int))[j]? = some true → (f.at' (k : Int))[j]? = some true → ((andC e f).at' (k : Int))[j]? = some true := fun j u v => (andC_at hkk hll).2 ⟨u, v⟩
    refine ⟨g1.trans q1, fun s hs => ?_, fun hf => ?_, fun m hm j hj => ?_⟩
    · have u1 := g2 s (by rw [q1]; exact hs)
      have u2 := q2 s hs
      exact ⟨oinR_and hand u1.1 u2.1, oinR_and hand u1.2 u2.2⟩
    · obtain ⟨u1, u2⟩ := g3 hf
      obtain ⟨w1, w2⟩ := q3 (hb.1.symm.trans hf)
      exact ⟨u1.trans w1, Tm.inR_and hand (by rw [← w1]; exact u2) w2⟩
    · have hmr := hS.next x (List.mem_of_getElem? hx) m hm
      obtain ⟨j1, j2⟩ := (andC_at (by rw [h1.len]; exact hmr) hll).1 hj
      obtain ⟨u1, u2⟩ := g4 m hm j j1
      obtain ⟨w1, w2⟩ := q4 m (by rw [← nexts_same hb]; exact hm) j j2
      exact ⟨u1.trans w1, Tm.inR_and hand (by rw [← w1]; exact u2) w2⟩
theorem Tm.inR_all {R : Nat} : ∀ {x : Tm}, x.pure R → x.inR (List.replicate R true)
  | .old v, h => by
    show (List.replicate R true)[v]? = some true
    rw [List.getElem?_replicate]; exact if_pos h
  | .own _, h => h.elim
  | .op _ a b, h => ⟨Tm.inR_all h.1, Tm.inR_all h.2⟩
  | .cst _, _ => trivial
  | .ld _ _, _ => trivial
  | .unk _, _ => trivial
theorem oinR_all {R : Nat} {x : Option Tm} (h : opure R x) : oinR (List.replicate R true) x := by
  cases x with
  | none => trivial
  | some x => exact Tm.inR_all h
theorem vshaped_refl {f : BFunc} (h : f.stands = true) : vshaped f f = true := by
  refine vshaped_yes rfl rfl h h ?_
  rw [List.all_eq_true]
  rintro ⟨x, y⟩ hp
  obtain ⟨k, hk⟩ := List.mem_iff_getElem?.1 hp
  rw [List.getElem?_zip_eq_some] at hk
  have : x = y := Option.some.inj (hk.1.symm.trans hk.2)
  subst this
  simp [shapeB]
theorem weak_at {f : BFunc} {k : Int} (hk : 0 ≤ k ∧ k < f.blocks.length) : (vweak f).at' k = List.replicate f.regs.toNat true := by
  unfold Cert.at' vweak
  rw [List.getElem?_replicate, if_pos (by omega)]; rfl
theorem GCheck.self {f : BFunc} (h : f.stands = true) : GCheck f f (vweak f) := by
  have hS := stands_of h
  refine ⟨vshaped_refl h, by simp [vweak], fun r hr => ?_, fun k x y hx hy => ?_⟩
  · rw [List.eq_of_mem_replicate hr]
    have := hS.r0
    simp
    omega
  · have : x = y := Option.some.inj (hx.symm.trans hy)
    subst this
    have hk := (List.getElem?_eq_some_iff.1 hx).1
    have hp := srun_pure f.regs.toNat x.ins
    rw [gsame, weak_at (k := (k : Int)) (by omega)]
    refine ⟨rfl, fun e he => ⟨oinR_all (hp.effs e he).1, oinR_all (hp.effs e he).2⟩, fun _ => ⟨rfl, Tm.inR_all (tget_pure hp.regs _)⟩, fun q _ j _ => ⟨rfl, Tm.inR_all (tget_pure hp.regs _)⟩⟩
end Go.Proofs.Ytpijoieooikfgaa.Sv

namespace Go.Proofs.Ytpijoieooikfgaa.Sv
open Go
theorem words_of {f : BFunc} {n : Nat} (h : ∀ x ∈ f.blocks, x.ins.length ≤ n ∧ insW x.ins) : f.words := fun x hx => (h x hx).2
end Go.Proofs.Ytpijoieooikfgaa.Sv

namespace Go.Proofs.Ytpijoieooikfgaa.Sv
open Go
structure Mach.Le (m m' : Mach) : Prop where
  words : m'.words = m.words
  out : m'.out = m.out
  read : m'.read = m.read
  fin : m'.fin = m.fin
  steps : m'.steps ≤ m.steps
def Mach.Sim (x y : Mach) : Prop := x.fin = 5 ∨ x.Le y
theorem Mach.Le.refl (m : Mach) : m.Le m := ⟨rfl, rfl, rfl, rfl, Nat.le_refl _⟩
theorem Mach.Le.put {m m' : Mach} (h : m.Le m') (w : List Int) (o : List UInt8) (r : Nat) (f : Int) : Mach.Le ⟨w, o, r, m.steps, f⟩ ⟨w, o, r, m'.steps, f⟩ := ⟨rfl, rfl, rfl, rfl, h.steps⟩
section
variable {call call' : Int → Mach → Mach} {s : ByteArray} {fuel : Int}
theorem mstep_false {m : Mach} (h : (mstep fuel m).1 = false) : (mstep fuel m).2.fin = 5 := by
  unfold mstep at *
  cases e : decide ((m.steps : Int) ≥ fuel) with
  | true => rfl
  | false => rw [e] at h; cases h
def gasOk (fuel : Int) (g : Nat) (m : Mach) : Prop := fuel.toNat < m.steps + g
end
end Go.Proofs.Ytpijoieooikfgaa.Sv

namespace Go.Proofs.Ytpijoieooikfgaa.Sv
open Go
structure Core where
  words : List Int
  out : List UInt8
  read : Nat
def Mach.core (m : Mach) : Core := ⟨m.words, m.out, m.read⟩
structure EH where
  mems : List (List Int)
  unks : List Int
  core : Core
def ev (ρ : List Int) (h : EH) : Tm → Int
  | .old v => rget ρ (v : Int)
  | .own _ => 0
  | .cst n => n
  | .op k a b => (wapp k (ev ρ h a) (ev ρ h b)).1
  | .ld b τ => rget ((h.mems[τ.toNat]?).getD []) b
  | .unk n => (h.unks[n]?).getD 0
def oev (ρ : List Int) (h : EH) : Option Tm → Int
  | none => 0
  | some t => ev ρ h t
def Tm.sc (n m : Nat) : Tm → Prop
  | .op _ a b => a.sc n m ∧ b.sc n m
  | .ld _ τ => τ.toNat < m
  | .unk k => k < n
  | _ => True
structure EH.Ext (h h' : EH) : Prop where
  mems : ∃ l, h'.mems = h.mems ++ l
  unks : ∃ l, h'.unks = h.unks ++ l
theorem EH.Ext.refl (h : EH) : h.Ext h := ⟨⟨[], by simp⟩, ⟨[], by simp⟩⟩
theorem Tm.sc_mono {n m n' m' : Nat} (hn : n ≤ n') (hm : m ≤ m') : ∀ {t : Tm}, t.sc n m → t.sc n' m'
  | .op _ a b, h => ⟨Tm.sc_mono hn hm h.1, Tm.sc_mono hn hm h.2⟩
  | .ld _ τ, h => Nat.lt_of_lt_of_le (show τ.toNat < m from h) hm
  | .unk k, h => Nat.lt_of_lt_of_le (show k < n from h) hn
  | .old _, _ => trivial
  | .own _, _ => trivial
  | .cst _, _ => trivial
theorem ev_ext {ρ : List Int} {h h' : EH} (hx : h.Ext h') : ∀ {t : Tm}, t.sc h.unks.length h.mems.length → ev ρ h' t = ev ρ h t
  | .op k a b, hs => by
    show (wapp k (ev ρ h' a) (ev ρ h' b)).1 = _
    rw [ev_ext hx hs.1, ev_ext hx hs.2]; rfl
  | .ld b τ, hs => by
    obtain ⟨l, hl⟩ := hx.mems
    show rget ((h'.mems[τ.toNat]?).getD []) b = rget ((h.mems[τ.toNat]?).getD []) b
    rw [hl, List.getElem?_append_left hs]
  | .unk k, hs => by
    obtain ⟨l, hl⟩ := hx.unks
    show (h'.unks[k]?).getD 0 = (h.unks[k]?).getD 0
    rw [hl, List.getElem?_append_left hs]
  | .old _, _ => rfl
  | .own _, _ => rfl
  | .cst _, _ => rfl
def agreeOn (ρ ρ' : List Int) (row : List Bool) : Prop := ∀ j : Nat, row[j]? = some true → rget ρ (j : Int) = rget ρ' (j : Int)
theorem ev_inR {ρ ρ' : List Int} {h : EH} {row : List Bool} (ha : agreeOn ρ ρ' row) : ∀ {t : Tm}, t.inR row → ev ρ h t = ev ρ' h t
  | .old v, hi => ha v hi
  | .own _, hi => hi.elim
  | .op k a b, hi => by
    show (wapp k (ev ρ h a) (ev ρ h b)).1 = (wapp k (ev ρ' h a) (ev ρ' h b)).1
    rw [ev_inR ha hi.1, ev_inR ha hi.2]
  | .cst _, _ => rfl
  | .ld _ _, _ => rfl
  | .unk _, _ => rfl
theorem oev_inR {ρ ρ' : List Int} {h : EH} {row : List Bool} (ha : agreeOn ρ ρ' row) {t : Option Tm} (hi : oinR row t) : oev ρ h t = oev ρ' h t := by
  cases t with
  | none => rfl
  | some t => exact ev_inR ha hi
inductive Res where
  | ok (h : EH)
  | stop (f : Int) (c : Core)
def EH.no (h : EH) (c : Core) (u : Int) : EH := ⟨h.mems, h.unks ++ [u], c⟩
def EH.yes (h : EH) (c : Core) (u : Int) : EH := ⟨h.mems ++ [c.words], h.unks ++ [u], c⟩
theorem EH.ext_no (h : EH) (c : Core) (u : Int) : h.Ext (h.no c u) := ⟨⟨[], by simp [EH.no]⟩, ⟨[u], rfl⟩⟩
theorem EH.ext_yes (h : EH) (c : Core) (u : Int) : h.Ext (h.yes c u) := ⟨⟨[c.words], rfl⟩, ⟨[u], rfl⟩⟩
def fx (s : ByteArray) (op k base size va vb : Int) (h : EH) : Res :=
  bif op == 3 then (bif (wapp k va vb).2 == 0 then .ok (h.no h.core 0) else .stop 2 h.core)
  else bif op == 5 then .ok (h.yes ⟨rset h.core.words base va, h.core.out, h.core.read⟩ 0)
  else bif op == 6 then (bif decide (va ≥ size) then .stop 3 h.core else .ok (h.no h.core (rget h.core.words (base + va))))
  else bif op == 7 then (bif decide (va ≥ size) then .stop 3 h.core else .ok (h.yes ⟨rset h.core.words (base + va) vb, h.core.out, h.core.read⟩ 0))
  else bif op == 8 then (bif decide (h.core.read < s.size) then .ok (h.no ⟨h.core.words, h.core.out, h.core.read + 1⟩ ((inAt s h.core.read).toNat : Int)) else .ok (h.no h.core 256))
  else (bif decide (h.core.out.length ≥ 65536) then .stop 4 h.core else .ok (h.no ⟨h.core.words, h.core.out ++ [byteOf va], h.core.read⟩ 0))
def resC (m : Mach) (h : EH) : Res := bif m.fin == 0 then .ok (h.yes m.core 0) else .stop m.fin m.core
section
variable (call : Int → Mach → Mach) (s : ByteArray) (ρ : List Int)
def fxR (e : SE) (h : EH) (r : Res) : Prop :=
  (e.op = 10 ∧ ∃ m : Mach, m.core = h.core ∧ m.fin = 0 ∧ r = resC (call e.base m) h) ∨ (e.op ≠ 10 ∧ r = fx s e.op e.k e.base e.size (oev ρ h e.a) (oev ρ h e.b) h)
def fxs : List SE → EH → Res → Prop
  | [], h, r => r = .ok h
  | e :: l, h, r => ∃ r1, fxR call s ρ e h r1 ∧ match r1 with
    | .ok h1 => fxs l h1 r
    | .stop f c => r = .stop f c
end
section
variable {call call' : Int → Mach → Mach} {s : ByteArray} {ρ ρ' : List Int}
theorem fxs_one {e : SE} {h : EH} {r : Res} (hr : fxR call s ρ e h r) : fxs call s ρ [e] h r := ⟨r, hr, by cases r <;> rfl⟩
theorem fxs_stop {f : Int} {c : Core} : ∀ {l l2 : List SE} {h : EH}, fxs call s ρ l h (.stop f c) → fxs call s ρ (l ++ l2) h (.stop f c)
  | [], l2, h, hr => by cases hr
  | e :: l, l2, h, ⟨r1, h1, h2⟩ => by
    refine ⟨r1, h1, ?_⟩
    cases r1 with
    | ok h1' => exact fxs_stop h2
    | stop f' c' => exact h2
theorem fxs_app {h' : EH} {r : Res} : ∀ {l l2 : List SE} {h : EH}, fxs call s ρ l h (.ok h') → fxs call s ρ l2 h' r → fxs call s ρ (l ++ l2) h r
  | [], l2, h, hr, h2 => by cases hr; exact h2
  | e :: l, l2, h, ⟨r1, h1, h2⟩, h3 => by
    refine ⟨r1, h1, ?_⟩
    cases r1 with
    | ok h1' => exact fxs_app h2 h3
    | stop f' c' => cases h2
def Res.fuel : Res → Prop
  | .stop f _ => f = 5
  | _ => False
def Mach.Co (m m' : Mach) : Prop := m'.core = m.core ∧ m'.fin = m.fin
def callsLock (call call' : Int → Mach → Mach) (ok : Int → Prop) : Prop := ∀ i m m', ok i → m.fin = 0 → m.Co m' → (call i m).fin = 5 ∨ (call' i m').fin = 5 ∨ (call i m).Co (call' i m')
theorem resC_fuel {m : Mach} {h : EH} (hf : m.fin = 5) : (resC m h).fuel := by unfold resC; rw [hf]; rfl
theorem fxR_det {ok : Int → Prop} (hc : callsLock call call' ok) {e : SE} (he : e.op = 10 → ok e.base) {h : EH} (ha : oev ρ h e.a = oev ρ' h e.a) (hb : oev ρ h e.b = oev ρ' h e.b) {r r' : Res} (h1 : fxR call s ρ e h r) (h2 : fxR call' s ρ' e h r') : r = r' ∨ r.fuel ∨ r'.fuel := by
  rcases h1 with ⟨e1, m, c1, f1, rfl⟩ | ⟨e1, rfl⟩
  · rcases h2 with ⟨e2, m', c2, f2, rfl⟩ | ⟨e2, _⟩
    · rcases hc e.base m m' (he e1) f1 ⟨c2.trans c1.symm, f2.trans f1.symm⟩ with g | g | g
      · exact .inr (.inl (resC_fuel g))
      · exact .inr (.inr (resC_fuel g))
      · refine .inl ?_
        unfold resC
        rw [g.1, g.2]
    · exact absurd e1 e2
  · rcases h2 with ⟨e2, _⟩ | ⟨e2, rfl⟩
    · exact absurd e2 e1
    · exact .inl (by rw [ha, hb])
theorem fxs_det {ok : Int → Prop} (hc : callsLock call call' ok) {row : List Bool} (hr : agreeOn ρ ρ' row) : ∀ {l : List SE}, (∀ e ∈ l, e.op = 10 → ok e.base) → (∀ e ∈ l, e.inR row) → ∀ {h : EH} {r r' : Res}, fxs call s ρ l h r → fxs call' s ρ' l h r' → r = r' ∨ r.fuel ∨ r'.fuel
  | [], _, _, h, r, r', h1, h2 => by cases h1; cases h2; exact .inl rfl
  | e :: l, ho, hi, h, r, r', ⟨r1, a1, a2⟩, ⟨r1', b1, b2⟩ => by
    have hie := hi e (by simp)
    rcases fxR_det hc (ho e (by simp)) (oev_inR hr hie.1) (oev_inR hr hie.2) a1 b1 with g | g | g
    · subst g
      cases r1 with
      | ok h1 => exact fxs_det hc hr (fun e he => ho e (by simp [he])) (fun e he => hi e (by simp [he])) a2 b2
      | stop f c => exact .inl (a2.trans b2.symm)
    · cases r1 with
      | ok h1 => exact g.elim
      | stop f c => exact .inr (.inl (by rw [a2]; exact g))
    · cases r1' with
      | ok h1 => exact g.elim
      | stop f c => exact .inr (.inr (by rw [b2]; exact g))
end
structure Inv (ρ : List Int) (S : SS) (regs : List Int) (m : Mach) (h : EH) : Prop where
  len : regs.length = S.regs.length
  reg : ∀ z, rget regs z = ev ρ h (tget S.regs z)
  sc : ∀ t ∈ S.regs, t.sc h.unks.length h.mems.length
  core : h.core = m.core
  un : h.unks.length = S.effs.length
  tm : 0 ≤ S.time ∧ h.mems.length = S.time.toNat + 1
  mem : h.mems[S.time.toNat]? = some m.words
  fin : m.fin = 0
theorem tget_sc {n m : Nat} {l : List Tm} (h : ∀ t ∈ l, t.sc n m) (z : Int) : (tget l z).sc n m := by
  unfold tget
  cases e : l[z.toNat]? with
  | none => exact trivial
  | some t => exact h t (List.mem_of_getElem? e)
theorem get_set {α : Type} (l : List α) (a b : Nat) (v d : α) : ((l.set a v)[b]?).getD d = if a = b ∧ a < l.length then v else (l[b]?).getD d := by
  by_cases h : a = b
  · subst h
    by_cases hl : a < l.length
    · rw [List.getElem?_set_self hl, if_pos ⟨rfl, hl⟩]; rfl
    · rw [if_neg (by intro h; exact hl h.2), List.set_eq_of_length_le (by omega)]
  · rw [List.getElem?_set_ne h, if_neg (by intro g; exact h g.1)]
section
variable {ρ : List Int} {S : SS} {regs : List Int} {m : Mach} {h : EH}
theorem Inv.put (hI : Inv ρ S regs m h) (d : Int) {t : Tm} {v : Int} (ht : t.sc h.unks.length h.mems.length) (hv : v = ev ρ h t) : Inv ρ (S.put d t) (rset regs d v) m h := by
  refine ⟨by simp [rset, SS.put, tset, hI.len], fun z => ?_, fun x hx => ?_, hI.core, hI.un, hI.tm, hI.mem, hI.fin⟩
  · have h1 := hI.reg z
    show ((regs.set d.toNat v)[z.toNat]?).getD 0 = ev ρ h (((S.regs.set d.toNat t)[z.toNat]?).getD (.cst 0))
    rw [get_set, get_set, hI.len]
    split
    · exact hv
    · exact h1
  · have hx' : x ∈ S.regs.set d.toNat t := hx
    rcases List.mem_or_eq_of_mem_set hx' with hx | rfl
    · exact hI.sc x hx
    · exact ht
theorem Inv.no (hI : Inv ρ S regs m h) (e : SE) {c : Core} (u : Int) {m1 : Mach} (hm : m1.core = c) (hf : m1.fin = 0) (hw : c.words = m.words) : Inv ρ (S.eff e) regs m1 (h.no c u) := by
  refine ⟨hI.len, fun z => ?_, fun x hx => ?_, hm.symm, ?_, hI.tm, ?_, hf⟩
  · rw [hI.reg z]; exact (ev_ext (h.ext_no c u) (tget_sc hI.sc z)).symm
  · exact Tm.sc_mono (by simp [EH.no]) (Nat.le_refl _) (hI.sc x hx)
  · show (h.unks ++ [u]).length = (S.effs ++ [e]).length
    simp [hI.un]
  · show h.mems[S.time.toNat]? = some m1.words
    rw [hI.mem, ← hw, ← hm]; rfl
theorem Inv.yes (hI : Inv ρ S regs m h) (e : SE) {c : Core} (u : Int) {m1 : Mach} (hm : m1.core = c) (hf : m1.fin = 0) : Inv ρ (S.eff e).tick regs m1 (h.yes c u) := by
  obtain ⟨t0, t1⟩ := hI.tm
  have e1 : (S.time + 1).toNat = S.time.toNat + 1 := by omega
  refine ⟨hI.len, fun z => ?_, fun x hx => ?_, hm.symm, ?_, ?_, ?_, hf⟩
  · rw [hI.reg z]; exact (ev_ext (h.ext_yes c u) (tget_sc hI.sc z)).symm
  · exact Tm.sc_mono (by simp [EH.yes]) (by simp [EH.yes]) (hI.sc x hx)
  · show (h.unks ++ [u]).length = (S.effs ++ [e]).length
    simp [hI.un]
  · show 0 ≤ S.time + 1 ∧ (h.mems ++ [c.words]).length = (S.time + 1).toNat + 1
    rw [e1]; simp [t1]; omega
  · show (h.mems ++ [c.words])[(S.time + 1).toNat]? = some m1.words
    rw [e1, ← t1, List.getElem?_append_right (Nat.le_refl _), Nat.sub_self, ← hm]; rfl
end
def RGood (ρ : List Int) (S : SS) (p : List Int × Mach) : Res → Prop
  | .ok h => Inv ρ S p.1 p.2 h
  | .stop f c => p.2.fin = f ∧ f ≠ 0 ∧ p.2.core = c
theorem wapp_fine {k a b : Int} (hk : 4 ≤ k ∧ k ≤ 15) (h : (k = 7 ∨ k = 8) → b ≠ 0) : (wapp k a b).2 = 0 := by
  unfold wapp
  cases e4 : k == 4 with
  | true => rfl
  | false =>
  cases e5 : k == 5 with
  | true => rfl
  | false =>
  cases e6 : k == 6 with
  | true => rfl
  | false =>
  cases e7 : k == 7 || k == 8 with
  | true =>
    have hb : b ≠ 0 := h (by simpa using e7)
    show (wdivide k a b).2 = 0
    unfold wdivide
    rw [show (b == 0) = false by simpa using hb]
    cases k == 7 <;> rfl
  | false =>
  cases e9 : k == 9 with
  | true => rfl
  | false =>
  cases e10 : k == 10 with
  | true => rfl
  | false =>
  cases e11 : k == 11 with
  | true => rfl
  | false =>
  cases e12 : k == 12 || k == 13 with
  | true => rfl
  | false =>
  cases e14 : k == 14 || k == 15 with
  | true => rfl
  | false => exfalso; simp at e4 e5 e6 e7 e9 e10 e11 e12 e14; omega
end Go.Proofs.Ytpijoieooikfgaa.Sv

namespace Go.Proofs.Ytpijoieooikfgaa.Sv
open Go
section
variable {call call' : Int → Mach → Mach} {s : ByteArray} {ρ : List Int}
theorem tfold_ev {h : EH} {k : Int} {a b : Tm} : ev ρ h (tfold k a b) = (wapp k (ev ρ h a) (ev ρ h b)).1 := by
  have hop : ∀ x y : Tm, ev ρ h (.op k x y) = (wapp k (ev ρ h x) (ev ρ h y)).1 := fun _ _ => rfl
  cases a with
  | cst x =>
    cases b with
    | cst y =>
      simp only [tfold]
      cases trisky k (.cst y) <;> rfl
    | _ => rfl
  | _ => rfl
theorem tfold_sc {n m : Nat} {k : Int} {a b : Tm} (ha : a.sc n m) (hb : b.sc n m) : (tfold k a b).sc n m := by
  have hop : (Tm.op k a b).sc n m := ⟨ha, hb⟩
  cases a with
  | cst x =>
    cases b with
    | cst y =>
      simp only [tfold]
      cases trisky k (.cst y) with
      | true => exact hop
      | false => exact trivial
    | _ => exact hop
  | _ => exact hop
theorem tfold_fine {h : EH} {k : Int} {a b : Tm} (hk : 4 ≤ k ∧ k ≤ 15) (hr : trisky k b = false) : (wapp k (ev ρ h a) (ev ρ h b)).2 = 0 := by
  refine wapp_fine hk fun hd => ?_
  unfold trisky at hr
  rw [show (k == 7 || k == 8) = true by simpa using hd, Bool.true_and] at hr
  cases b with
  | cst n => exact fun e => by simp [Tm.isZero] at hr; exact hr e
  | _ => cases hr
theorem rfind {S : SS} {regs : List Int} {m : Mach} {h : EH} {r : Res} {e : SE} {t : Tac} {p : List Int × Mach} (he : (S.step t).effs = S.effs ++ [e]) (hr : fxR call s ρ e h r) (hg : RGood ρ (S.step t) p r) :
    ∃ es, (S.step t).effs = S.effs ++ es ∧ ∃ r, fxs call s ρ es h r ∧ RGood ρ (S.step t) p r := ⟨[e], he, r, fxs_one hr, hg⟩
theorem rnone {S : SS} {h : EH} {t : Tac} {p : List Int × Mach} (he : (S.step t).effs = S.effs) (hg : Inv ρ (S.step t) p.1 p.2 h) :
    ∃ es, (S.step t).effs = S.effs ++ es ∧ ∃ r, fxs call s ρ es h r ∧ RGood ρ (S.step t) p r := ⟨[], by rw [he, List.append_nil], .ok h, rfl, hg⟩
theorem mone_fx {S : SS} {regs : List Int} {m : Mach} {h : EH} (hI : Inv ρ S regs m h) (t : Tac) (hop : 1 ≤ t.op ∧ t.op ≤ 10) (hk : t.op = 3 → 4 ≤ t.k ∧ t.k ≤ 15) :
    ∃ es, (S.step t).effs = S.effs ++ es ∧ ∃ r, fxs call s ρ es h r ∧ RGood ρ (S.step t) (mone call s t regs m) r := by
  have hc := hI.core
  have hw : h.core.words = m.words := by rw [hc]; rfl
  have ho : h.core.out = m.out := by rw [hc]; rfl
  have hrd : h.core.read = m.read := by rw [hc]; rfl
  have hg := fun z => tget_sc hI.sc z
  have hev := hI.reg
  by_cases h1 : t.op = 1
  · have e1 : S.step t = S.put t.d (.cst t.n) := by unfold SS.step; rw [h1]; rfl
    have e2 : mone call s t regs m = (rset regs t.d t.n, m) := by unfold mone; rw [h1]; rfl
    refine rnone (by rw [e1]; rfl) ?_
    rw [e1, e2]
    exact hI.put t.d trivial rfl
  by_cases h2 : t.op = 2
  · have e1 : S.step t = S.put t.d (tget S.regs t.a) := by unfold SS.step; rw [h2]; rfl
    have e2 : mone call s t regs m = (rset regs t.d (rget regs t.a), m) := by unfold mone; rw [h2]; rfl
    refine rnone (by rw [e1]; rfl) ?_
    rw [e1, e2]
    exact hI.put t.d (hg _) (hev _)
  by_cases h3 : t.op = 3
  · have e1 : S.step t = S.bin t := by unfold SS.step; rw [h3]; rfl
    have e2 : mone call s t regs m = (bif (wapp t.k (rget regs t.a) (rget regs t.b)).2 == 0 then (rset regs t.d (wapp t.k (rget regs t.a) (rget regs t.b)).1, m) else (regs, { m with fin := 2 })) := by unfold mone; rw [h3]; rfl
    cases hr : trisky t.k (tget S.regs t.b) with
    | false =>
      have ed : S.div t = S := by unfold SS.div; rw [hr]; rfl
      have hz := tfold_fine (ρ := ρ) (h := h) (a := tget S.regs t.a) (hk h3) hr
      rw [← hev, ← hev] at hz
      refine rnone (by rw [e1, SS.bin, ed]; rfl) ?_
      rw [e1, e2, hz, SS.bin, ed]
      exact hI.put t.d (tfold_sc (hg _) (hg _)) (by rw [tfold_ev, ← hev, ← hev])
    | true =>
      have ed : S.div t = S.eff ⟨true, 3, t.k, 0, 0, some (tget S.regs t.a), some (tget S.regs t.b)⟩ := by unfold SS.div; rw [hr]; rfl
      have hfx : fxR call s ρ ⟨true, 3, t.k, 0, 0, some (tget S.regs t.a), some (tget S.regs t.b)⟩ h (bif (wapp t.k (rget regs t.a) (rget regs t.b)).2 == 0 then .ok (h.no h.core 0) else .stop 2 h.core) := .inr ⟨(by decide : (3 : Int) ≠ 10), by rw [hev, hev]; rfl⟩
      refine rfind (S := S) (m := m) (regs := regs) (by rw [e1, SS.bin, ed]; rfl) hfx ?_
      rw [e1, e2, SS.bin, ed]
      cases hz : (wapp t.k (rget regs t.a) (rget regs t.b)).2 == 0 with
      | false => exact ⟨rfl, by decide, by rw [hc]; rfl⟩
      | true =>
        have hI2 := hI.no ⟨true, 3, t.k, 0, 0, some (tget S.regs t.a), some (tget S.regs t.b)⟩ (c := h.core) 0 (m1 := m) hc.symm hI.fin hw
        exact hI2.put t.d (tfold_sc (tget_sc hI2.sc t.a) (tget_sc hI2.sc t.b)) (by
          rw [tfold_ev]
          have ha := hI2.reg t.a
          have hb := hI2.reg t.b
          have ea : tget (S.eff ⟨true, 3, t.k, 0, 0, some (tget S.regs t.a), some (tget S.regs t.b)⟩).regs t.a = tget S.regs t.a := rfl
          have eb : tget (S.eff ⟨true, 3, t.k, 0, 0, some (tget S.regs t.a), some (tget S.regs t.b)⟩).regs t.b = tget S.regs t.b := rfl
          rw [ea] at ha
          rw [eb] at hb
          rw [ha, hb])
  by_cases h4 : t.op = 4
  · have e1 : S.step t = S.put t.d (.ld t.base S.time) := by unfold SS.step; rw [h4]; rfl
    have e2 : mone call s t regs m = (rset regs t.d (rget m.words t.base), m) := by unfold mone; rw [h4]; rfl
    refine rnone (by rw [e1]; rfl) ?_
    rw [e1, e2]
    refine hI.put t.d (show S.time.toNat < h.mems.length by rw [hI.tm.2]; omega) ?_
    show _ = rget ((h.mems[S.time.toNat]?).getD []) t.base
    rw [hI.mem]; rfl
  by_cases h5 : t.op = 5
  · have e1 : S.step t = (S.eff ⟨false, 5, 0, t.base, 0, some (tget S.regs t.a), none⟩).tick := by unfold SS.step; rw [h5]; rfl
    have e2 : mone call s t regs m = (regs, { m with words := rset m.words t.base (rget regs t.a) }) := by unfold mone; rw [h5]; rfl
    have hfx : fxR call s ρ ⟨false, 5, 0, t.base, 0, some (tget S.regs t.a), none⟩ h (.ok (h.yes ⟨rset m.words t.base (rget regs t.a), m.out, m.read⟩ 0)) := .inr ⟨(by decide : (5 : Int) ≠ 10), by rw [hev, ← hw, ← ho, ← hrd]; rfl⟩
    refine rfind (S := S) (m := m) (regs := regs) (by rw [e1]; rfl) hfx ?_
    rw [e1, e2]
    exact hI.yes _ 0 rfl hI.fin
  by_cases h6 : t.op = 6
  · have e1 : S.step t = S.get t ⟨false, 6, 0, t.base, t.size, some (tget S.regs t.a), none⟩ := by unfold SS.step; rw [h6]; rfl
    have e2 : mone call s t regs m = (bif decide (rget regs t.a ≥ t.size) then (regs, { m with fin := 3 }) else (rset regs t.d (rget m.words (t.base + rget regs t.a)), m)) := by unfold mone; rw [h6]; rfl
    have hfx : fxR call s ρ ⟨false, 6, 0, t.base, t.size, some (tget S.regs t.a), none⟩ h (bif decide (rget regs t.a ≥ t.size) then .stop 3 h.core else .ok (h.no h.core (rget m.words (t.base + rget regs t.a)))) := .inr ⟨(by decide : (6 : Int) ≠ 10), by rw [hev, ← hw]; rfl⟩
    refine rfind (S := S) (m := m) (regs := regs) (by rw [e1]; rfl) hfx ?_
    rw [e1, e2]
    cases decide (rget regs t.a ≥ t.size) with
    | true => exact ⟨rfl, by decide, by rw [hc]; rfl⟩
    | false =>
      have hI2 := hI.no ⟨false, 6, 0, t.base, t.size, some (tget S.regs t.a), none⟩ (c := h.core) (rget m.words (t.base + rget regs t.a)) (m1 := m) hc.symm hI.fin hw
      refine hI2.put t.d (t := .unk S.effs.length) ?_ ?_
      · show S.effs.length < (h.unks ++ [_]).length
        simp [hI.un]
      · show _ = ((h.unks ++ [_])[S.effs.length]?).getD 0
        rw [← hI.un, List.getElem?_append_right (Nat.le_refl _), Nat.sub_self]; rfl
  by_cases h7 : t.op = 7
  · have e1 : S.step t = (S.eff ⟨false, 7, 0, t.base, t.size, some (tget S.regs t.a), some (tget S.regs t.b)⟩).tick := by unfold SS.step; rw [h7]; rfl
    have e2 : mone call s t regs m = (bif decide (rget regs t.a ≥ t.size) then (regs, { m with fin := 3 }) else (regs, { m with words := rset m.words (t.base + rget regs t.a) (rget regs t.b) })) := by unfold mone; rw [h7]; rfl
    have hfx : fxR call s ρ ⟨false, 7, 0, t.base, t.size, some (tget S.regs t.a), some (tget S.regs t.b)⟩ h (bif decide (rget regs t.a ≥ t.size) then .stop 3 h.core else .ok (h.yes ⟨rset m.words (t.base + rget regs t.a) (rget regs t.b), m.out, m.read⟩ 0)) := .inr ⟨(by decide : (7 : Int) ≠ 10), by rw [hev, hev, ← hw, ← ho, ← hrd]; rfl⟩
    refine rfind (S := S) (m := m) (regs := regs) (by rw [e1]; rfl) hfx ?_
    rw [e1, e2]
    cases decide (rget regs t.a ≥ t.size) with
    | true => exact ⟨rfl, by decide, by rw [hc]; rfl⟩
    | false => exact hI.yes _ 0 rfl hI.fin
  by_cases h8 : t.op = 8
  · have e1 : S.step t = S.get t ⟨false, 8, 0, 0, 0, none, none⟩ := by unfold SS.step; rw [h8]; rfl
    have e2 : mone call s t regs m = (bif decide (m.read < s.size) then (rset regs t.d ((inAt s m.read).toNat : Int), { m with read := m.read + 1 }) else (rset regs t.d 256, m)) := by unfold mone; rw [h8]; rfl
    have hfx : fxR call s ρ ⟨false, 8, 0, 0, 0, none, none⟩ h (bif decide (m.read < s.size) then .ok (h.no ⟨m.words, m.out, m.read + 1⟩ ((inAt s m.read).toNat : Int)) else .ok (h.no h.core 256)) := .inr ⟨(by decide : (8 : Int) ≠ 10), by rw [← hw, ← ho, ← hrd]; rfl⟩
    refine rfind (S := S) (m := m) (regs := regs) (by rw [e1]; rfl) hfx ?_
    rw [e1, e2]
    have key : ∀ (c : Core) (u : Int) (m1 : Mach), m1.core = c → m1.fin = 0 → c.words = m.words → Inv ρ (S.get t ⟨false, 8, 0, 0, 0, none, none⟩) (rset regs t.d u) m1 (h.no c u) := fun c u m1 a1 a2 a3 => by
      have hI2 := hI.no ⟨false, 8, 0, 0, 0, none, none⟩ u a1 a2 a3
      refine hI2.put t.d (t := .unk S.effs.length) ?_ ?_
      · show S.effs.length < (h.unks ++ [_]).length
        simp [hI.un]
      · show _ = ((h.unks ++ [_])[S.effs.length]?).getD 0
        rw [← hI.un, List.getElem?_append_right (Nat.le_refl _), Nat.sub_self]; rfl
    cases decide (m.read < s.size) with
    | true => exact key _ _ _ rfl hI.fin rfl
    | false => exact key _ _ _ hc.symm hI.fin hw
  by_cases h9 : t.op = 9
  · have e1 : S.step t = S.eff ⟨false, 9, 0, 0, 0, some (tget S.regs t.a), none⟩ := by unfold SS.step; rw [h9]; rfl
    have e2 : mone call s t regs m = (bif decide (m.out.length ≥ 65536) then (regs, { m with fin := 4 }) else (regs, { m with out := m.out ++ [byteOf (rget regs t.a)] })) := by unfold mone; rw [h9]; rfl
    have hfx : fxR call s ρ ⟨false, 9, 0, 0, 0, some (tget S.regs t.a), none⟩ h (bif decide (m.out.length ≥ 65536) then .stop 4 h.core else .ok (h.no ⟨m.words, m.out ++ [byteOf (rget regs t.a)], m.read⟩ 0)) := .inr ⟨(by decide : (9 : Int) ≠ 10), by rw [hev, ← hw, ← ho, ← hrd]; rfl⟩
    refine rfind (S := S) (m := m) (regs := regs) (by rw [e1]; rfl) hfx ?_
    rw [e1, e2]
    cases decide (m.out.length ≥ 65536) with
    | true => exact ⟨rfl, by decide, by rw [hc]; rfl⟩
    | false => exact hI.no _ 0 rfl hI.fin rfl
  have h10 : t.op = 10 := by omega
  have e1 : S.step t = (S.eff ⟨false, 10, 0, t.base, 0, none, none⟩).tick := by unfold SS.step; rw [h10]; rfl
  have e2 : mone call s t regs m = (regs, call t.base m) := by unfold mone; rw [h10]; rfl
  have hfx : fxR call s ρ ⟨false, 10, 0, t.base, 0, none, none⟩ h (resC (call t.base m) h) := .inl ⟨rfl, m, hc.symm, hI.fin, rfl⟩
  refine rfind (S := S) (m := m) (regs := regs) (by rw [e1]; rfl) hfx ?_
  rw [e1, e2]
  unfold resC
  cases hz : (call t.base m).fin == 0 with
  | true => exact hI.yes _ 0 rfl (by simpa using hz)
  | false => exact ⟨rfl, by simpa using hz, rfl⟩
end
theorem foldl_effs (l : List Tac) : ∀ S : SS, ∃ es, (l.foldl SS.step S).effs = S.effs ++ es := by
  induction l with
  | nil => exact fun S => ⟨[], by simp⟩
  | cons t l ih =>
    intro S
    obtain ⟨es, he⟩ := ih (S.step t)
    have h1 : ∃ es, (S.step t).effs = S.effs ++ es := by
      unfold SS.step
      cases t.op == 1 with
      | true => exact ⟨[], by simp [SS.put]⟩
      | false =>
      cases t.op == 2 with
      | true => exact ⟨[], by simp [SS.put]⟩
      | false =>
      cases t.op == 3 with
      | true =>
        simp only [cond_true, cond_false, SS.bin, SS.put, SS.div]
        cases trisky t.k (tget S.regs t.b) with
        | true => exact ⟨[_], rfl⟩
        | false => exact ⟨[], by simp⟩
      | false =>
      cases t.op == 4 with
      | true => exact ⟨[], by simp [SS.put]⟩
      | false =>
      cases t.op == 5 with
      | true => exact ⟨[_], rfl⟩
      | false =>
      cases t.op == 6 with
      | true => exact ⟨[_], rfl⟩
      | false =>
      cases t.op == 7 with
      | true => exact ⟨[_], rfl⟩
      | false =>
      cases t.op == 8 with
      | true => exact ⟨[_], rfl⟩
      | false =>
      cases t.op == 9 with
      | true => exact ⟨[_], rfl⟩
      | false => exact ⟨[_], rfl⟩
    obtain ⟨e1, h1⟩ := h1
    exact ⟨e1 ++ es, by rw [List.foldl_cons, he, h1, List.append_assoc]⟩
def MGood (ρ : List Int) (S : SS) (p : Bool × List Int × Mach) : Res → Prop
  | .ok h => p.1 = true ∧ Inv ρ S p.2.1 p.2.2 h
  | .stop f c => p.1 = false ∧ p.2.2.fin = f ∧ f ≠ 0 ∧ p.2.2.core = c
theorem Inv.steps {ρ : List Int} {S : SS} {regs : List Int} {m m' : Mach} {h : EH} (hI : Inv ρ S regs m h) (hc : m'.core = m.core) (hf : m'.fin = 0) : Inv ρ S regs m' h :=
  ⟨hI.len, hI.reg, hI.sc, hI.core.trans hc.symm, hI.un, hI.tm, by rw [hI.mem]; exact congrArg (fun c : Core => some c.words) hc.symm, hf⟩
theorem mins_fx {call : Int → Mach → Mach} {s : ByteArray} {ρ : List Int} {fuel : Int} : ∀ (l : List Tac), (∀ t ∈ l, (1 ≤ t.op ∧ t.op ≤ 10) ∧ (t.op = 3 → 4 ≤ t.k ∧ t.k ≤ 15)) → ∀ (S : SS) (regs : List Int) (m : Mach) (h : EH), Inv ρ S regs m h →
    ∃ es, (l.foldl SS.step S).effs = S.effs ++ es ∧ ((mins call s fuel l regs m).1 = false ∧ (mins call s fuel l regs m).2.2.fin = 5 ∨ ∃ r, fxs call s ρ es h r ∧ MGood ρ (l.foldl SS.step S) (mins call s fuel l regs m) r)
  | [], _, S, regs, m, h, hI => ⟨[], by simp, .inr ⟨.ok h, rfl, rfl, hI⟩⟩
  | t :: l, hl, S, regs, m, h, hI => by
    obtain ⟨ht1, ht2⟩ := hl t (by simp)
    cases hm : (mstep fuel m).1 with
    | false =>
      obtain ⟨es, he⟩ := foldl_effs (t :: l) S
      refine ⟨es, he, .inl ?_⟩
      unfold mins
      rw [hm]
      exact ⟨rfl, mstep_false hm⟩
    | true =>
      obtain ⟨a1, a2⟩ := mstep_true hm
      have hI1 : Inv ρ S regs (mstep fuel m).2 h := hI.steps (by rw [a2]; rfl) (by rw [a2]; exact hI.fin)
      obtain ⟨es, he, r, hr, hg⟩ := mone_fx (call := call) (s := s) hI1 t ht1 ht2
      have e1 : mins call s fuel (t :: l) regs m = bif (mone call s t regs (mstep fuel m).2).2.fin == 0 then mins call s fuel l (mone call s t regs (mstep fuel m).2).1 (mone call s t regs (mstep fuel m).2).2 else (false, mone call s t regs (mstep fuel m).2) := by
        rw [mins, hm]; rfl
      rw [e1]
      cases r with
      | stop f c =>
        obtain ⟨g1, g2, g3⟩ := hg
        obtain ⟨es2, he2⟩ := foldl_effs l (S.step t)
        refine ⟨es ++ es2, by rw [List.foldl_cons, he2, he, List.append_assoc], .inr ⟨.stop f c, fxs_stop hr, ?_⟩⟩
        rw [show ((mone call s t regs (mstep fuel m).2).2.fin == 0) = false by rw [g1]; simpa using g2]
        exact ⟨rfl, g1, g2, g3⟩
      | ok h1 =>
        have hg' : Inv ρ (S.step t) (mone call s t regs (mstep fuel m).2).1 (mone call s t regs (mstep fuel m).2).2 h1 := hg
        rw [show ((mone call s t regs (mstep fuel m).2).2.fin == 0) = true by rw [hg'.fin]; rfl]
        obtain ⟨es2, he2, hr2⟩ := mins_fx (call := call) (s := s) (fuel := fuel) l (fun t h => hl t (by simp [h])) (S.step t) _ _ h1 hg'
        refine ⟨es ++ es2, by rw [List.foldl_cons, he2, he, List.append_assoc], ?_⟩
        rcases hr2 with hr2 | ⟨r2, b1, b2⟩
        · exact .inl hr2
        · exact .inr ⟨r2, fxs_app hr b1, b2⟩
end Go.Proofs.Ytpijoieooikfgaa.Sv

namespace Go.Proofs.Ytpijoieooikfgaa.Sv
open Go
def LockO (x y : Mach) : Prop := x.fin = 5 ∨ y.fin = 5 ∨ x.Co y
section
variable {call call' : Int → Mach → Mach} {s : ByteArray} {fuel fuel' : Int}
theorem mone_lock {ok : Int → Prop} (hc : callsLock call call' ok) (t : Tac) (ht : t.op = 10 → ok t.base) (regs : List Int) {m m' : Mach} (h0 : m.fin = 0) (h : m.Co m') :
    (mone call s t regs m).1 = (mone call' s t regs m').1 ∧ LockO (mone call s t regs m).2 (mone call' s t regs m').2 := by
  obtain ⟨w, o, r, st, f⟩ := m
  obtain ⟨w', o', r', st', f'⟩ := m'
  obtain ⟨h1, h4⟩ := h
  simp only [Mach.core, Core.mk.injEq] at h1 h4
  obtain ⟨h1, h2, h3⟩ := h1
  subst h1; subst h2; subst h3; subst h4
  have hle : ∀ (a : List Int) (b : List UInt8) (c : Nat) (d : Int), Mach.Co ⟨a, b, c, st, d⟩ ⟨a, b, c, st', d⟩ := fun a b c d => ⟨rfl, rfl⟩
  unfold mone
  cases t.op == 1 with
  | true => exact ⟨rfl, .inr (.inr (hle _ _ _ _))⟩
  | false =>
  cases t.op == 2 with
  | true => exact ⟨rfl, .inr (.inr (hle _ _ _ _))⟩
  | false =>
  cases t.op == 3 with
  | true =>
    simp only [cond_true, cond_false]
    cases (wapp t.k (rget regs t.a) (rget regs t.b)).2 == 0 <;> exact ⟨rfl, .inr (.inr (hle _ _ _ _))⟩
  | false =>
  cases t.op == 4 with
  | true => exact ⟨rfl, .inr (.inr (hle _ _ _ _))⟩
  | false =>
  cases t.op == 5 with
  | true => exact ⟨rfl, .inr (.inr (hle _ _ _ _))⟩
  | false =>
  cases t.op == 6 with
  | true =>
    simp only [cond_true, cond_false]
    cases decide (rget regs t.a ≥ t.size) <;> exact ⟨rfl, .inr (.inr (hle _ _ _ _))⟩
  | false =>
  cases t.op == 7 with
  | true =>
    simp only [cond_true, cond_false]
    cases decide (rget regs t.a ≥ t.size) <;> exact ⟨rfl, .inr (.inr (hle _ _ _ _))⟩
  | false =>
  cases t.op == 8 with
  | true =>
    simp only [cond_true, cond_false]
    cases decide (r' < s.size) <;> exact ⟨rfl, .inr (.inr (hle _ _ _ _))⟩
  | false =>
  cases t.op == 9 with
  | true =>
    simp only [cond_true, cond_false]
    cases decide (o'.length ≥ 65536) <;> exact ⟨rfl, .inr (.inr (hle _ _ _ _))⟩
  | false =>
  cases h10 : t.op == 10 with
  | true => exact ⟨rfl, hc _ _ _ (ht (by simpa using h10)) h0 (hle _ _ _ _)⟩
  | false => exact ⟨rfl, .inr (.inr (hle _ _ _ _))⟩

def insLock (X Y : Bool × List Int × Mach) : Prop := (X.1 = false ∧ X.2.2.fin = 5) ∨ (Y.1 = false ∧ Y.2.2.fin = 5) ∨ (X.1 = Y.1 ∧ X.2.1 = Y.2.1 ∧ X.2.2.Co Y.2.2 ∧ (X.1 = true → X.2.2.fin = 0) ∧ (X.1 = false → X.2.2.fin ≠ 0))
theorem mstep_co {m m' : Mach} (h : m.Co m') (h1 : (mstep fuel m).1 = true) (h2 : (mstep fuel' m').1 = true) : (mstep fuel m).2.Co (mstep fuel' m').2 := by
  obtain ⟨a1, a2⟩ := mstep_true h1
  obtain ⟨b1, b2⟩ := mstep_true h2
  rw [a2, b2]
  exact h
theorem mins_lock {ok : Int → Prop} (hc : callsLock call call' ok) : ∀ (l : List Tac), (∀ t ∈ l, t.op = 10 → ok t.base) → ∀ (regs : List Int) {m m' : Mach}, m.fin = 0 → m.Co m' → insLock (mins call s fuel l regs m) (mins call' s fuel' l regs m')
  | [], _, regs, m, m', h0, h => .inr (.inr ⟨rfl, rfl, h, fun _ => h0, fun e => by cases e⟩)
  | t :: r, hl, regs, m, m', h0, h => by
    unfold mins
    cases h1 : (mstep fuel m).1 with
    | false => exact .inl ⟨rfl, mstep_false h1⟩
    | true =>
    cases h2 : (mstep fuel' m').1 with
    | false => exact .inr (.inl ⟨rfl, mstep_false h2⟩)
    | true =>
      have a2 := mstep_co h h1 h2
      have hz : (mstep fuel m).2.fin = 0 := by rw [(mstep_true h1).2]; exact h0
      obtain ⟨b1, b2⟩ := mone_lock (s := s) hc t (hl t (by simp)) regs hz a2
      simp only [cond_true]
      rcases b2 with b2 | b2 | b2
      · rw [show ((mone call s t regs (mstep fuel m).2).2.fin == 0) = false by rw [b2]; rfl]
        exact .inl ⟨rfl, b2⟩
      · rw [show ((mone call' s t regs (mstep fuel' m').2).2.fin == 0) = false by rw [b2]; rfl]
        exact .inr (.inl ⟨rfl, b2⟩)
      · rw [b2.2, ← b1]
        cases hf : (mone call s t regs (mstep fuel m).2).2.fin == 0 with
        | false =>
          simp only [cond_false]
          exact .inr (.inr ⟨rfl, b1, b2, (fun e => by cases e), fun _ => by simpa using hf⟩)
        | true =>
          simp only [cond_true]
          exact mins_lock hc r (fun u hu => hl u (by simp [hu])) _ (by simpa using hf) b2
theorem mblk_lock0 {ok : Int → Prop} (hc : callsLock call call' ok) {f : BFunc} (hf : ∀ x ∈ f.blocks, ∀ t ∈ x.ins, t.op = 10 → ok t.base) (hcs : ∀ i m, m.steps ≤ (call i m).steps) (hcs' : ∀ i m, m.steps ≤ (call' i m).steps) :
    ∀ (g : Nat) (g' : Nat) (i : Int) (regs : List Int) (m m' : Mach), m.fin = 0 → m.Co m' → 0 < g → 0 < g' → gasOk fuel g m → gasOk fuel' g' m' → LockO (mblk call s fuel f g i regs m) (mblk call' s fuel' f g' i regs m')
  | 0, _, _, _, _, _, _, _, h, _, _, _ => absurd h (by omega)
  | _ + 1, 0, _, _, _, _, _, _, _, h, _, _ => absurd h (by omega)
  | g + 1, g' + 1, i, regs, m, m', h0, h, _, _, hg, hg' => by
    unfold mblk
    cases hk : f.blocks[i.toNat]? with
    | none => exact .inr (.inr h)
    | some k =>
      have hs := mins_lock (s := s) (fuel := fuel) (fuel' := fuel') hc k.ins (hf k (List.mem_of_getElem? hk)) regs h0 h
      have hst := mins_steps (s := s) (fuel := fuel) hcs k.ins regs m
      have hst' := mins_steps (s := s) (fuel := fuel') hcs' k.ins regs m'
      dsimp only
      generalize mins call s fuel k.ins regs m = X at hs hst ⊢
      generalize mins call' s fuel' k.ins regs m' = Y at hs hst' ⊢
      obtain ⟨X1, X2, X3⟩ := X
      obtain ⟨Y1, Y2, Y3⟩ := Y
      rcases hs with ⟨h1, h2⟩ | ⟨h1, h2⟩ | ⟨h1, h2, h3, h4, h5⟩
      · simp only at h1 h2; subst h1; exact .inl h2
      · simp only at h1 h2; subst h1; exact .inr (.inl h2)
      · simp only at h1 h2 h3 h4 h5 hst hst'
        subst h1; subst h2
        cases X1 with
        | false => exact .inr (.inr h3)
        | true =>
          simp only [cond_true]
          cases hm : (mstep fuel X3).1 with
          | false => simp only [Bool.false_and, cond_false]; exact .inl (mstep_false hm)
          | true =>
          cases hm' : (mstep fuel' Y3).1 with
          | false => simp only [Bool.false_and, cond_false]; exact .inr (.inl (mstep_false hm'))
          | true =>
            have a2 := mstep_co h3 hm hm'
            obtain ⟨e1, e2⟩ := mstep_true hm
            obtain ⟨e1', e2'⟩ := mstep_true hm'
            cases hfin : k.fin == 3 with
            | true => exact .inr (.inr a2)
            | false =>
              simp only [Bool.not_false, Bool.and_self, cond_true]
              refine mblk_lock0 hc hf hcs hcs' g g' _ _ _ _ (by rw [e2]; exact h4 rfl) a2 ?_ ?_ ?_ ?_
              · unfold gasOk at hg; omega
              · unfold gasOk at hg'; omega
              · unfold gasOk at hg ⊢; rw [e2]; dsimp only; omega
              · unfold gasOk at hg' ⊢; rw [e2']; dsimp only; omega
end
theorem mfun_lock {b b' : Blocks} (hb : b.right = true) {N : Nat} (hN : N ≤ b.funcs.length) (hs : ∀ j, j < N → b'.funcs[j]? = b.funcs[j]?) {s : ByteArray} {fuel fuel' : Int} : ∀ (n : Nat) (i : Int) (m m' : Mach), 0 ≤ i → i < N → m.fin = 0 → m.Co m' → LockO (mfun b s fuel n i m) (mfun b' s fuel' n i m')
  | 0, _, _, _, _, _, _, h => .inr (.inr h)
  | n + 1, i, m, m', h1, h2, h0, h => by
    unfold mfun
    rw [hs i.toNat (by omega)]
    cases hf : b.funcs[i.toNat]? with
    | none => exact .inr (.inr h)
    | some f =>
      have hone := (right_spec hb).2.2.2 i.toNat f hf
      refine mblk_lock0 (ok := fun j => 0 ≤ j ∧ j < N) (fun j m m' hj hz hl => mfun_lock hb hN hs n j m m' hj.1 hj.2 hz hl) (fun x hx t ht ho => ?_) (fun j m => mfun_steps n j m) (fun j m => mfun_steps n j m) _ _ _ _ _ _ h0 h (Nat.succ_pos _) (Nat.succ_pos _) ?_ ?_
      · have := (tacIn_of (((one_spec hone).2.2.2 x hx).2 t ht)).call ho
        omega
      · unfold gasOk; omega
      · unfold gasOk; omega
theorem foldl_len (l : List Tac) : ∀ S : SS, (l.foldl SS.step S).regs.length = S.regs.length := by
  induction l with
  | nil => exact fun S => rfl
  | cons t l ih => exact fun S => by rw [List.foldl_cons, ih, SS.step_len]
theorem step_calls {ok : Int → Prop} {S : SS} (hS : ∀ e ∈ S.effs, e.op = 10 → ok e.base) {t : Tac} (hop : 1 ≤ t.op ∧ t.op ≤ 10) (ht : t.op = 10 → ok t.base) : ∀ e ∈ (S.step t).effs, e.op = 10 → ok e.base := by
  have hap : ∀ e : SE, (e.op = 10 → ok e.base) → ∀ x ∈ S.effs ++ [e], x.op = 10 → ok x.base := fun e he x hx => by
    simp only [List.mem_append, List.mem_singleton] at hx
    rcases hx with hx | rfl
    · exact hS x hx
    · exact he
  unfold SS.step
  cases h1 : t.op == 1 with
  | true => exact hS
  | false =>
  cases h2 : t.op == 2 with
  | true => exact hS
  | false =>
  cases h3 : t.op == 3 with
  | true =>
    show ∀ e ∈ (S.div t).effs, e.op = 10 → ok e.base
    unfold SS.div
    cases trisky t.k (tget S.regs t.b) with
    | true => exact hap _ (fun h => absurd h (by decide : (3 : Int) ≠ 10))
    | false => exact hS
  | false =>
  cases h4 : t.op == 4 with
  | true => exact hS
  | false =>
  cases h5 : t.op == 5 with
  | true => exact hap ⟨false, 5, 0, t.base, 0, some (tget S.regs t.a), none⟩ (fun h => absurd h (by decide : (5 : Int) ≠ 10))
  | false =>
  cases h6 : t.op == 6 with
  | true => exact hap ⟨false, 6, 0, t.base, t.size, some (tget S.regs t.a), none⟩ (fun h => absurd h (by decide : (6 : Int) ≠ 10))
  | false =>
  cases h7 : t.op == 7 with
  | true => exact hap ⟨false, 7, 0, t.base, t.size, some (tget S.regs t.a), some (tget S.regs t.b)⟩ (fun h => absurd h (by decide : (7 : Int) ≠ 10))
  | false =>
  cases h8 : t.op == 8 with
  | true => exact hap ⟨false, 8, 0, 0, 0, none, none⟩ (fun h => absurd h (by decide : (8 : Int) ≠ 10))
  | false =>
  cases h9 : t.op == 9 with
  | true => exact hap ⟨false, 9, 0, 0, 0, some (tget S.regs t.a), none⟩ (fun h => absurd h (by decide : (9 : Int) ≠ 10))
  | false => exact hap ⟨false, 10, 0, t.base, 0, none, none⟩ (fun _ => ht (by simp at h1 h2 h3 h4 h5 h6 h7 h8 h9; omega))
theorem foldl_calls {ok : Int → Prop} : ∀ (l : List Tac), (∀ t ∈ l, (1 ≤ t.op ∧ t.op ≤ 10) ∧ (t.op = 10 → ok t.base)) → ∀ S : SS, (∀ e ∈ S.effs, e.op = 10 → ok e.base) → ∀ e ∈ (l.foldl SS.step S).effs, e.op = 10 → ok e.base
  | [], _, S, hS => hS
  | t :: l, hl, S, hS => foldl_calls l (fun t h => hl t (by simp [h])) _ (step_calls hS (hl t (by simp)).1 (hl t (by simp)).2)
theorem inv0 {R : Nat} {ρ : List Int} {m : Mach} (hl : ρ.length = R) (h0 : m.fin = 0) {h : EH} (hh : h = ⟨[m.words], [], m.core⟩) : Inv ρ ⟨symR R, [], 0⟩ ρ m h := by
  subst hh
  refine ⟨by rw [hl, symR_len], fun z => ?_, fun t ht => ?_, rfl, rfl, ⟨Int.le_refl _, rfl⟩, rfl, h0⟩
  · show rget ρ z = ev ρ _ (((symR R)[z.toNat]?).getD (.cst 0))
    by_cases hz : z.toNat < R
    · have : (symR R)[z.toNat]? = some (.old z.toNat) := by simp [symR, hz]
      rw [this]
      show rget ρ z = rget ρ ((z.toNat : Nat) : Int)
      unfold rget; rw [Int.toNat_natCast]
    · have : (symR R)[z.toNat]? = none := by rw [List.getElem?_eq_none_iff, symR_len]; omega
      rw [this]
      show rget ρ z = 0
      unfold rget
      rw [List.getElem?_eq_none_iff.2 (by omega)]; rfl
  · simp only [symR, List.mem_map] at ht
    obtain ⟨v, _, rfl⟩ := ht
    exact trivial
def insT (l : List Tac) : Prop := ∀ t ∈ l, (1 ≤ t.op ∧ t.op ≤ 10) ∧ (t.op = 3 → 4 ≤ t.k ∧ t.k ≤ 15)
def BlockLock (x y : Block) (c : Cert) (R : Nat) (next : List Int) (P Q : Bool × List Int × Mach) : Prop :=
  (P.1 = false ∧ P.2.2.fin = 5) ∨ (Q.1 = false ∧ Q.2.2.fin = 5) ∨ (P.1 = false ∧ Q.1 = false ∧ P.2.2.Co Q.2.2 ∧ P.2.2.fin ≠ 0) ∨
  (P.1 = true ∧ Q.1 = true ∧ P.2.2.Co Q.2.2 ∧ P.2.2.fin = 0 ∧ (P.2.1.length = R ∧ Q.2.1.length = R) ∧ (∀ k ∈ next, agreeOn P.2.1 Q.2.1 (c.at' k)) ∧ (x.fin = 2 → rget P.2.1 x.v = rget Q.2.1 y.v))
theorem block_lock {call call' : Int → Mach → Mach} {s : ByteArray} {fuel fuel' : Int} {ok : Int → Prop} (hc : callsLock call call' ok) {R : Nat} {x y : Block} {c : Cert} {i : Int} {next : List Int} (hG : gsame R x y c i next)
    (hx : insT x.ins) (hy : insT y.ins) (hok : ∀ t ∈ x.ins, t.op = 10 → ok t.base) {ρ ρ' : List Int} (hl : ρ.length = R) (hl' : ρ'.length = R) (ha : agreeOn ρ ρ' (c.at' i)) {m m' : Mach} (h0 : m.fin = 0) (hm : m.Co m') :
    BlockLock x y c R next (mins call s fuel x.ins ρ m) (mins call' s fuel' y.ins ρ' m') := by
  obtain ⟨g1, g2, g3, g4⟩ := hG
  obtain ⟨es, he, hr⟩ := mins_fx (call := call) (s := s) (fuel := fuel) x.ins hx ⟨symR R, [], 0⟩ ρ m ⟨[m.words], [], m.core⟩ (inv0 hl h0 rfl)
  obtain ⟨es', he', hr'⟩ := mins_fx (call := call') (s := s) (fuel := fuel') y.ins hy ⟨symR R, [], 0⟩ ρ' m' ⟨[m.words], [], m.core⟩ (inv0 hl' (hm.2.trans h0) (by rw [hm.1, show m'.words = m.words from congrArg Core.words hm.1]))
  have e1 : es = (srun (symR R) x.ins).effs := by rw [srun, he]; rfl
  have e2 : es' = (srun (symR R) y.ins).effs := by rw [srun, he']; rfl
  have hees : es = es' := by rw [e1, e2, g1]
  subst hees
  rcases hr with hr | ⟨r, hr1, hr2⟩
  · exact .inl hr
  rcases hr' with hr' | ⟨r', hr1', hr2'⟩
  · exact .inr (.inl hr')
  have hoe : ∀ e ∈ es, e.op = 10 → ok e.base := by
    rw [e1]
    exact foldl_calls x.ins (fun t ht => ⟨(hx t ht).1, hok t ht⟩) _ (fun e he => by simp at he)
  have hfu : ∀ {r : Res} {S : SS} {P : Bool × List Int × Mach} {ρ : List Int}, r.fuel → MGood ρ S P r → P.1 = false ∧ P.2.2.fin = 5 := fun {r S P ρ} h1 h2 => by
    cases r with
    | ok _ => exact h1.elim
    | stop f c => exact ⟨h2.1, h2.2.1.trans h1⟩
  rcases fxs_det hc ha hoe (by rw [e2]; exact g2) hr1 hr1' with hd | hd | hd
  · subst hd
    cases r with
    | stop f c => exact .inr (.inr (.inl ⟨hr2.1, hr2'.1, ⟨hr2'.2.2.2.trans hr2.2.2.2.symm, hr2'.2.1.trans hr2.2.1.symm⟩, by rw [hr2.2.1]; exact hr2.2.2.1⟩))
    | ok h =>
      obtain ⟨p1, I1⟩ := hr2
      obtain ⟨q1, I2⟩ := hr2'
      have key : ∀ {z z' : Int}, tget (srun (symR R) x.ins).regs z = tget (srun (symR R) y.ins).regs z' → (tget (srun (symR R) y.ins).regs z').inR (c.at' i) → rget (mins call s fuel x.ins ρ m).2.1 z = rget (mins call' s fuel' y.ins ρ' m').2.1 z' := fun {z z'} h1 h2 => by
        have a1 := I1.reg z
        have a2 := I2.reg z'
        have h1' : tget (x.ins.foldl SS.step ⟨symR R, [], 0⟩).regs z = tget (y.ins.foldl SS.step ⟨symR R, [], 0⟩).regs z' := h1
        rw [a1, a2, h1']
        exact ev_inR ha h2
      refine .inr (.inr (.inr ⟨p1, q1, ⟨I2.core.symm.trans I1.core, I2.fin.trans I1.fin.symm⟩, I1.fin, ⟨?_, ?_⟩, fun k hk j hj => ?_, fun hf => ?_⟩))
      · rw [I1.len, foldl_len, symR_len]
      · rw [I2.len, foldl_len, symR_len]
      · obtain ⟨u1, u2⟩ := g4 k hk j hj
        exact key u1 u2
      · obtain ⟨u1, u2⟩ := g3 hf
        exact key u1 u2
  · exact .inl (hfu hd hr2)
  · exact .inr (.inl (hfu hd hr2'))
end Go.Proofs.Ytpijoieooikfgaa.Sv

namespace Go.Proofs.Ytpijoieooikfgaa.Sv
open Go
def BFunc.tops (f : BFunc) : Prop := ∀ x ∈ f.blocks, insT x.ins
theorem tops_of {f : BFunc} (h : f.stands = true) (hw : f.words) : f.tops := fun x hx t ht => by
  have hT := stands_tact h hx ht (hw x hx t ht)
  exact ⟨hT.op, hT.k⟩
structure Checked2 (old new : BFunc) (c : Cert) : Prop where
  g : GCheck old new c
  so : Standing old
  sn : Standing new
  to : old.tops
  tn : new.tops
theorem checked2 {old new : BFunc} {c : Cert} (ho : old.words) (hn : new.words) (h : vcheck old new c = true) : Checked2 old new c := by
  have hG := (vcheck_iff ho hn).1 h
  have hV := vshaped_of hG.sh
  exact ⟨hG, stands_of hV.so, stands_of hV.sn, tops_of hV.so ho, tops_of hV.sn hn⟩
theorem next_mem {x : Block} (hf : x.fin = 1 ∨ x.fin = 2 ∨ x.fin = 3) (h3 : (x.fin == 3) = false) (regs : List Int) : x.next regs ∈ x.nexts := by
  unfold Block.next Block.nexts
  rcases hf with e | e | e
  · rw [e]; simp
  · rw [e]
    cases (2 : Int) == 2 && rget regs x.v == 0 <;> simp
  · rw [e] at h3; cases h3
section
variable {call call' : Int → Mach → Mach} {s : ByteArray} {fuel fuel' : Int} {old new : BFunc} {c : Cert} {ok : Int → Prop}
theorem mblk_at {f : BFunc} {k : Block} {i : Int} (hk : f.blocks[i.toNat]? = some k) (g : Nat) (regs : List Int) (m : Mach) : mblk call s fuel f (g + 1) i regs m =
    bif (mins call s fuel k.ins regs m).1 then (bif (mstep fuel (mins call s fuel k.ins regs m).2.2).1 && !(k.fin == 3) then mblk call s fuel f g (k.next (mins call s fuel k.ins regs m).2.1) (mins call s fuel k.ins regs m).2.1 (mstep fuel (mins call s fuel k.ins regs m).2.2).2 else (mstep fuel (mins call s fuel k.ins regs m).2.2).2) else (mins call s fuel k.ins regs m).2.2 := by
  rw [mblk, hk]
theorem next_eq {x y : Block} (h : x.fin = y.fin ∧ x.to = y.to ∧ x.els = y.els) {r r' : List Int} (hv : x.fin = 2 → rget r x.v = rget r' y.v) : x.next r = y.next r' := by
  unfold Block.next
  rw [h.1, h.2.1, h.2.2]
  by_cases hf : y.fin = 2
  · rw [hv (h.1.trans hf)]
  · rw [show (y.fin == 2) = false by simpa using hf]; rfl
theorem mblk_lock (hc : callsLock call call' ok) (hC : Checked2 old new c) (hok : ∀ x ∈ old.blocks, ∀ t ∈ x.ins, t.op = 10 → ok t.base) (hcs : ∀ i m, m.steps ≤ (call i m).steps) (hcs' : ∀ i m, m.steps ≤ (call' i m).steps) :
    ∀ (g g' : Nat) (i : Int) (ρ ρ' : List Int) (m m' : Mach), 0 ≤ i ∧ i < old.blocks.length → ρ.length = old.regs.toNat → ρ'.length = old.regs.toNat → agreeOn ρ ρ' (c.at' i) → m.fin = 0 → m.Co m' → 0 < g → 0 < g' → gasOk fuel g m → gasOk fuel' g' m' →
      LockO (mblk call s fuel old g i ρ m) (mblk call' s fuel' new g' i ρ' m')
  | 0, _, _, _, _, _, _, _, _, _, _, _, _, h, _, _, _ => absurd h (by omega)
  | _ + 1, 0, _, _, _, _, _, _, _, _, _, _, _, _, h, _, _ => absurd h (by omega)
  | g + 1, g' + 1, i, ρ, ρ', m, m', hi, hl, hl', ha, h0, hm, _, _, hg, hg' => by
    have hV := vshaped_of hC.g.sh
    obtain ⟨x, hx⟩ := get_of_lt (l := old.blocks) (k := i.toNat) (by omega)
    obtain ⟨y, hy⟩ := get_of_lt (l := new.blocks) (k := i.toNat) (by have := hV.len; omega)
    have hxm := List.mem_of_getElem? hx
    have hym := List.mem_of_getElem? hy
    have hi2 : ((i.toNat : Nat) : Int) = i := by omega
    have hgs := hC.g.b i.toNat x y hx hy
    rw [hi2] at hgs
    have hb := hV.b i.toNat x y hx hy
    have hs := block_lock (call := call) (call' := call') (s := s) (fuel := fuel) (fuel' := fuel') hc hgs (hC.to x hxm) (hC.tn y hym) (hok x hxm) hl hl' ha h0 hm
    have hst := mins_steps (s := s) (fuel := fuel) hcs x.ins ρ m
    have hst' := mins_steps (s := s) (fuel := fuel') hcs' y.ins ρ' m'
    rw [mblk_at hx, mblk_at hy]
    generalize mins call s fuel x.ins ρ m = X at hs hst ⊢
    generalize mins call' s fuel' y.ins ρ' m' = Y at hs hst' ⊢
    obtain ⟨X1, X2, X3⟩ := X
    obtain ⟨Y1, Y2, Y3⟩ := Y
    rcases hs with ⟨h1, h2⟩ | ⟨h1, h2⟩ | ⟨h1, h2, h3, h4⟩ | ⟨h1, h2, h3, h4, ⟨h5, h6⟩, h7, h8⟩
    · simp only at h1 h2; subst h1; exact .inl h2
    · simp only at h1 h2; subst h1; exact .inr (.inl h2)
    · simp only at h1 h2 h3; subst h1; subst h2; exact .inr (.inr h3)
    · simp only at h1 h2 h3 h4 h5 h6 h7 h8 hst hst'
      subst h1; subst h2
      simp only [cond_true]
      cases hm1 : (mstep fuel X3).1 with
      | false => simp only [Bool.false_and, cond_false]; exact .inl (mstep_false hm1)
      | true =>
      cases hm2 : (mstep fuel' Y3).1 with
      | false => simp only [Bool.false_and, cond_false]; exact .inr (.inl (mstep_false hm2))
      | true =>
        have a2 := mstep_co h3 hm1 hm2
        obtain ⟨e1, e2⟩ := mstep_true hm1
        obtain ⟨e1', e2'⟩ := mstep_true hm2
        rw [← hb.1]
        cases hfin : x.fin == 3 with
        | true => exact .inr (.inr a2)
        | false =>
          simp only [Bool.not_false, Bool.and_self, cond_true]
          have hn := next_eq hb (r := X2) (r' := Y2) h8
          have hnm := next_mem (hC.so.fin x hxm) hfin X2
          rw [← hn]
          refine mblk_lock hc hC hok hcs hcs' g g' _ _ _ _ _ (hC.so.next x hxm _ hnm) h5 h6 (h7 _ hnm) (by rw [e2]; exact h4) a2 ?_ ?_ ?_ ?_
          · unfold gasOk at hg; omega
          · unfold gasOk at hg'; omega
          · unfold gasOk at hg ⊢; rw [e2]; dsimp only; omega
          · unfold gasOk at hg' ⊢; rw [e2']; dsimp only; omega
end
theorem agree_refl (ρ : List Int) (row : List Bool) : agreeOn ρ ρ row := fun _ _ => rfl
def Blocks.fin34 (b : Blocks) (f : BFunc) : Blocks := ⟨b.words, b.funcs.set (b.funcs.length - 1) f⟩
theorem fin34_len (b : Blocks) (f : BFunc) : (b.fin34 f).funcs.length = b.funcs.length := by simp [Blocks.fin34]
theorem fin34_low {b : Blocks} {f : BFunc} {j : Nat} (h : j + 1 < b.funcs.length) : (b.fin34 f).funcs[j]? = b.funcs[j]? := by
  simp only [Blocks.fin34]; rw [List.getElem?_set_ne (by omega)]
theorem fin34_last {b : Blocks} {f : BFunc} (h : 0 < b.funcs.length) : (b.fin34 f).funcs[b.funcs.length - 1]? = some f := by
  simp only [Blocks.fin34]; rw [List.getElem?_set_self (by omega)]
theorem lock_run {X Y : Mach} (h : LockO X Y) : (bif X.fin == 0 then { X with fin := 1 } else X : Mach).fin = 5 ∨ (bif Y.fin == 0 then { Y with fin := 1 } else Y : Mach).fin = 5 ∨
    (bif X.fin == 0 then { X with fin := 1 } else X : Mach).fin = (bif Y.fin == 0 then { Y with fin := 1 } else Y : Mach).fin ∧ (bif X.fin == 0 then { X with fin := 1 } else X : Mach).out = (bif Y.fin == 0 then { Y with fin := 1 } else Y : Mach).out := by
  rcases h with h | h | h
  · rw [show (X.fin == 0) = false by rw [h]; rfl]; exact .inl h
  · rw [show (Y.fin == 0) = false by rw [h]; rfl]; exact .inr (.inl h)
  · have ho : Y.out = X.out := congrArg Core.out h.1
    rw [h.2]
    cases X.fin == 0 with
    | true => exact .inr (.inr ⟨rfl, ho.symm⟩)
    | false => exact .inr (.inr ⟨h.2.symm, ho.symm⟩)
theorem run_lock {b : Blocks} {old new : BFunc} {c : Cert} (hne : 0 < b.funcs.length) (hr : (b.fin34 old).right = true) (hC : Checked2 old new c) (s : ByteArray) (fuel fuel' : Int) :
    (mrun (b.fin34 old) s fuel).fin = 5 ∨ (mrun (b.fin34 new) s fuel').fin = 5 ∨ (mrun (b.fin34 old) s fuel).fin = (mrun (b.fin34 new) s fuel').fin ∧ (mrun (b.fin34 old) s fuel).out = (mrun (b.fin34 new) s fuel').out := by
  have hV := vshaped_of hC.g.sh
  have hone := (right_spec hr).2.2.2 _ _ (fin34_last hne)
  obtain ⟨n, hn⟩ : ∃ n, b.funcs.length = n + 1 := ⟨b.funcs.length - 1, by omega⟩
  have en : (((b.funcs.length : Int) - 1)).toNat = b.funcs.length - 1 := by omega
  have key : LockO (mfun (b.fin34 old) s (fuel0 fuel) (n + 1) ((b.funcs.length : Int) - 1) (m0 b)) (mfun (b.fin34 new) s (fuel0 fuel') (n + 1) ((b.funcs.length : Int) - 1) (m0 b)) := by
    unfold mfun
    rw [en, fin34_last hne, fin34_last hne]
    have e0 : new.regs = old.regs := hV.regs.symm
    have hb0 : (0 : Int) < old.blocks.length := by have := hC.so.ne; omega
    simp only [e0]
    refine mblk_lock (ok := fun j => 0 ≤ j ∧ j + 1 < b.funcs.length) (fun j m m' hj hz hl => ?_) hC (fun x hx t ht ho => ?_) (fun j m => mfun_steps n j m) (fun j m => mfun_steps n j m) _ _ 0 _ _ (m0 b) (m0 b) ⟨Int.le_refl _, hb0⟩ (by simp) (by simp) (agree_refl _ _) rfl ⟨rfl, rfl⟩ (Nat.succ_pos _) (Nat.succ_pos _) (by unfold gasOk; omega) (by unfold gasOk; omega)
    · exact mfun_lock hr (N := b.funcs.length - 1) (by rw [fin34_len]; omega) (fun j hj => by rw [fin34_low (by omega), fin34_low (by omega)]) n j m m' hj.1 (by omega) hz hl
    · have := (tacIn_of (((one_spec hone).2.2.2 x hx).2 t ht)).call ho
      omega
  have em : ∀ f, m0 (b.fin34 f) = m0 b := fun _ => rfl
  unfold mrun
  rw [fin34_len, fin34_len, em, em]
  rw [hn] at key ⊢
  exact lock_run key
end Go.Proofs.Ytpijoieooikfgaa.Sv

namespace Go.Proofs.Ytpijoieooikfgaa.Sv
open Go
section
variable {call call' : Int → Mach → Mach} {s : ByteArray} {fuel fuel' : Int}
variable {old new : BFunc} {c : Cert} {ok : Int → Prop}
end
end Go.Proofs.Ytpijoieooikfgaa.Sv

namespace Go.Proofs.Ytpijoieooikfgaa.Sv
open Go
def moreR (f : BFunc) : BFunc := ⟨f.regs + 1, f.blocks⟩
def extC (b : Bool) (c : Cert) : Cert := ⟨c.same.map fun r => r ++ [b]⟩
theorem within_more {z n : Int} (h : within z n = true) : within z (n + 1) = true := by
  simp only [within, Bool.and_eq_true, decide_eq_true_eq] at h ⊢; omega
theorem ends_more {x : Block} {n r : Int} (h : x.ends n r = true) : x.ends n (r + 1) = true := by
  unfold Block.ends at h ⊢
  cases e1 : x.fin == 1 with
  | true => rw [e1] at h; exact h
  | false =>
    cases e2 : x.fin == 2 with
    | false => rw [e1, e2] at h; exact h
    | true =>
      rw [e1, e2] at h
      simp only [cond_true, cond_false, Bool.and_eq_true] at h ⊢
      exact ⟨h.1, h.2.1, within_more h.2.2⟩
theorem fits_more {t : Tac} {f r w : Int} (h : t.fits f r w = true) : t.fits f (r + 1) w = true := by
  simp only [Tac.fits, Bool.and_eq_true, List.all_eq_true] at h ⊢
  refine ⟨h.1, h.2.1, ?_, fun u hu => within_more (h.2.2.2.1 u hu), h.2.2.2.2⟩
  have h3 := h.2.2.1
  rw [Bool.or_eq_true] at h3 ⊢
  exact h3.imp_right within_more
theorem stands_more {f : BFunc} (h : f.stands = true) (hr : f.regs ≤ 3999) : (moreR f).stands = true := by
  unfold BFunc.stands at h ⊢
  rw [Bool.and_eq_true] at h ⊢
  refine ⟨h.1, ?_⟩
  have h2 := h.2
  simp only [Blocks.right, Bool.and_eq_true, decide_eq_true_eq, List.all_eq_true] at h2 ⊢
  refine ⟨h2.1, h2.2.1, rfl, fun p hp => ?_⟩
  have hp' : p = ((moreR f).bare, 0) := by simpa using hp
  subst hp'
  have h3 := h2.2.2.2 (f.bare, 0) (by simp)
  simp only [BFunc.one, Bool.and_eq_true, decide_eq_true_eq, List.all_eq_true] at h3 ⊢
  obtain ⟨a1, a2, a3, a4⟩ := h3
  have e1 : (moreR f).bare.regs = f.bare.regs + 1 := rfl
  have e2 : f.bare.regs = f.regs := rfl
  have e3 : (moreR f).bare.blocks = f.bare.blocks := rfl
  refine ⟨by rw [e1]; omega, by rw [e1, e2]; omega, a3, fun x hx => ?_⟩
  have h4 := a4 x hx
  rw [e1, e3]
  unfold Block.ok at h4 ⊢
  rw [Bool.and_eq_true, List.all_eq_true] at h4 ⊢
  exact ⟨ends_more h4.1, fun t ht => fits_more (h4.2 t ht)⟩
theorem vshaped_more {f g : BFunc} (h : vshaped f g = true) (hr : f.regs ≤ 3999) : vshaped (moreR f) (moreR g) = true := by
  have hV := vshaped_of h
  refine vshaped_yes (by show f.regs + 1 = g.regs + 1; rw [hV.regs]) hV.len (stands_more hV.so hr) (stands_more hV.sn (by rw [← hV.regs]; exact hr)) ?_
  rw [List.all_eq_true]
  rintro ⟨x, y⟩ hp
  obtain ⟨k, hk⟩ := List.mem_iff_getElem?.1 hp
  rw [List.getElem?_zip_eq_some] at hk
  obtain ⟨e1, e2, e3⟩ := hV.b k x y hk.1 hk.2
  simp [shapeB, e1, e2, e3]
def SS.more (R : Nat) (s : SS) : SS := ⟨s.regs ++ [.old R], s.effs, s.time⟩
theorem tget_more {l : List Tm} {z : Int} (hz : 0 ≤ z ∧ z < l.length) (u : Tm) : tget (l ++ [u]) z = tget l z := by
  unfold tget; rw [List.getElem?_append_left (by omega)]
theorem tset_more {l : List Tm} {z : Int} (hz : 0 ≤ z ∧ z < l.length) (u v : Tm) : tset (l ++ [u]) z v = tset l z v ++ [u] := by
  unfold tset; rw [List.set_append, if_pos (by omega)]
theorem put_more {s : SS} {R : Nat} (hl : s.regs.length = R) {z : Int} (hz : 0 ≤ z ∧ z < R) (v : Tm) : (s.more R).put z v = (s.put z v).more R := by
  simp only [SS.put, SS.more]
  rw [tset_more (by rw [hl]; exact hz)]
theorem eff_more (s : SS) (R : Nat) (e : SE) : (s.more R).eff e = (s.eff e).more R := rfl
theorem step_more {s : SS} {R : Nat} (hl : s.regs.length = R) {t : Tac} (ht : TacV t R) (hop : 1 ≤ t.op ∧ t.op ≤ 10) : (s.more R).step t = (s.step t).more R := by
  have ga : (use1 t.op = true ∨ use2 t.op = true) → tget (s.more R).regs t.a = tget s.regs t.a := fun h => tget_more (by rw [hl]; exact ht.a h) _
  have gb : use2 t.op = true → tget (s.more R).regs t.b = tget s.regs t.b := fun h => tget_more (by rw [hl]; exact ht.b h) _
  have st : ∀ u : SS, ∀ k : Int, t.op = k → u.step t = u.step t := fun _ _ _ => rfl
  by_cases h1 : t.op = 1
  · have e : ∀ u : SS, u.step t = u.put t.d (.cst t.n) := fun u => by unfold SS.step; rw [h1]; rfl
    rw [e, e, put_more hl (ht.d (by rw [h1]; rfl))]
  by_cases h2 : t.op = 2
  · have e : ∀ u : SS, u.step t = u.put t.d (tget u.regs t.a) := fun u => by unfold SS.step; rw [h2]; rfl
    rw [e, e, ga (.inl (by rw [h2]; rfl)), put_more hl (ht.d (by rw [h2]; rfl))]
  by_cases h3 : t.op = 3
  · have e : ∀ u : SS, u.step t = u.bin t := fun u => by unfold SS.step; rw [h3]; rfl
    have a1 := ga (.inr (by rw [h3]; rfl))
    have b1 := gb (by rw [h3]; rfl)
    have hd : (s.more R).div t = (s.div t).more R := by
      unfold SS.div
      rw [a1, b1]
      cases trisky t.k (tget s.regs t.b) <;> rfl
    have hdl : (s.div t).regs.length = R := by
      unfold SS.div
      cases trisky t.k (tget s.regs t.b) <;> exact hl
    rw [e, e]
    unfold SS.bin
    rw [hd, a1, b1, put_more hdl (ht.d (by rw [h3]; rfl))]
  by_cases h4 : t.op = 4
  · have e : ∀ u : SS, u.step t = u.put t.d (.ld t.base u.time) := fun u => by unfold SS.step; rw [h4]; rfl
    rw [e, e, show (s.more R).time = s.time from rfl, put_more hl (ht.d (by rw [h4]; rfl))]
  by_cases h5 : t.op = 5
  · have e : ∀ u : SS, u.step t = (u.eff ⟨false, 5, 0, t.base, 0, some (tget u.regs t.a), none⟩).tick := fun u => by unfold SS.step; rw [h5]; rfl
    rw [e, e, ga (.inl (by rw [h5]; rfl))]; rfl
  by_cases h6 : t.op = 6
  · have e : ∀ u : SS, u.step t = u.get t ⟨false, 6, 0, t.base, t.size, some (tget u.regs t.a), none⟩ := fun u => by unfold SS.step; rw [h6]; rfl
    rw [e, e, ga (.inl (by rw [h6]; rfl))]
    unfold SS.get
    rw [eff_more, put_more (s := s.eff _) hl (ht.d (by rw [h6]; rfl))]; rfl
  by_cases h7 : t.op = 7
  · have e : ∀ u : SS, u.step t = (u.eff ⟨false, 7, 0, t.base, t.size, some (tget u.regs t.a), some (tget u.regs t.b)⟩).tick := fun u => by unfold SS.step; rw [h7]; rfl
    rw [e, e, ga (.inr (by rw [h7]; rfl)), gb (by rw [h7]; rfl)]; rfl
  by_cases h8 : t.op = 8
  · have e : ∀ u : SS, u.step t = u.get t ⟨false, 8, 0, 0, 0, none, none⟩ := fun u => by unfold SS.step; rw [h8]; rfl
    rw [e, e]
    unfold SS.get
    rw [eff_more, put_more (s := s.eff _) hl (ht.d (by rw [h8]; rfl))]; rfl
  by_cases h9 : t.op = 9
  · have e : ∀ u : SS, u.step t = u.eff ⟨false, 9, 0, 0, 0, some (tget u.regs t.a), none⟩ := fun u => by unfold SS.step; rw [h9]; rfl
    rw [e, e, ga (.inl (by rw [h9]; rfl))]; rfl
  have h10 : t.op = 10 := by omega
  have e : ∀ u : SS, u.step t = (u.eff ⟨false, 10, 0, t.base, 0, none, none⟩).tick := fun u => by unfold SS.step; rw [h10]; rfl
  rw [e, e]; rfl
theorem foldl_more {R : Nat} : ∀ (l : List Tac), (∀ t ∈ l, TacV t R ∧ 1 ≤ t.op ∧ t.op ≤ 10) → ∀ s : SS, s.regs.length = R → l.foldl SS.step (s.more R) = (l.foldl SS.step s).more R
  | [], _, s, _ => rfl
  | t :: l, hl, s, hs => by
    rw [List.foldl_cons, List.foldl_cons, step_more hs (hl t (by simp)).1 (hl t (by simp)).2]
    exact foldl_more l (fun t h => hl t (by simp [h])) _ ((SS.step_len s t).trans hs)
theorem srun_more {R : Nat} {l : List Tac} (hl : ∀ t ∈ l, TacV t R ∧ 1 ≤ t.op ∧ t.op ≤ 10) : srun (symR (R + 1)) l = (srun (symR R) l).more R := by
  have e : (⟨symR (R + 1), [], 0⟩ : SS) = SS.more R ⟨symR R, [], 0⟩ := by
    simp [SS.more, symR, List.range_succ]
  unfold srun
  rw [e]
  exact foldl_more l hl _ (symR_len R)
theorem srun_len' {R : Nat} (l : List Tac) : (srun (symR R) l).regs.length = R := by
  have : ∀ (l : List Tac) (s : SS), (l.foldl SS.step s).regs.length = s.regs.length := by
    intro l
    induction l with
    | nil => exact fun s => rfl
    | cons t l ih => exact fun s => by rw [List.foldl_cons, ih, SS.step_len]
  unfold srun
  rw [this]; exact symR_len R
theorem Tm.inR_ext {row : List Bool} (b : Bool) : ∀ {t : Tm}, t.inR row → t.inR (row ++ [b])
  | .old v, h => by
    have h' : row[v]? = some true := h
    show (row ++ [b])[v]? = some true
    rw [List.getElem?_append_left (List.getElem?_eq_some_iff.1 h').1]; exact h'
  | .own _, h => h.elim
  | .op _ _ _, h => ⟨Tm.inR_ext b h.1, Tm.inR_ext b h.2⟩
  | .cst _, _ => trivial
  | .ld _ _, _ => trivial
  | .unk _, _ => trivial
theorem oinR_ext {row : List Bool} (b : Bool) {t : Option Tm} (h : oinR row t) : oinR (row ++ [b]) t := by
  cases t with
  | none => trivial
  | some t => exact Tm.inR_ext b h
theorem ext_at {c : Cert} {k : Int} (b : Bool) (hk : 0 ≤ k ∧ k < c.same.length) : (extC b c).at' k = c.at' k ++ [b] := by
  obtain ⟨r, hr⟩ := get_of_lt (l := c.same) (k := k.toNat) (by omega)
  unfold Cert.at' extC
  rw [List.getElem?_map, hr]; rfl
theorem GCheck.more {f g : BFunc} {c : Cert} (h : GCheck f g c) (hr : f.regs ≤ 3999) (hf : f.words) (hg : g.words) (b : Bool) : GCheck (moreR f) (moreR g) (extC b c) := by
  have hV := vshaped_of h.sh
  have hS := stands_of hV.so
  have hN := stands_of hV.sn
  have hR : (f.regs + 1).toNat = f.regs.toNat + 1 := by have := hS.r0; omega
  have hx' : ∀ (F : BFunc), F.stands = true → F.words → F.regs = f.regs → ∀ x ∈ F.blocks, ∀ t ∈ x.ins, TacV t f.regs.toNat ∧ 1 ≤ t.op ∧ t.op ≤ 10 := fun F h1 h2 h3 x hx t ht => by
    have := stands_tact h1 hx ht (h2 x hx t ht)
    rw [h3] at this
    exact ⟨this.toTacV, this.op⟩
  refine ⟨vshaped_more h.sh hr, by simp [extC, h.len, moreR], fun r hr' => ?_, fun k x y hx hy => ?_⟩
  · obtain ⟨q, hq, rfl⟩ := List.mem_map.1 hr'
    have := h.rows q hq
    show ((q ++ [b]).length : Int) = f.regs + 1
    rw [← this]; simp
  · have hkx : f.blocks[k]? = some x := hx
    have hky : g.blocks[k]? = some y := hy
    have hk := (List.getElem?_eq_some_iff.1 hkx).1
    have hxm := List.mem_of_getElem? hkx
    have hym := List.mem_of_getElem? hky
    obtain ⟨g1, g2, g3, g4⟩ := h.b k x y hkx hky
    have e1 := srun_more (hx' f hV.so hf rfl x hxm)
    have e2 := srun_more (hx' g hV.sn hg hV.regs.symm y hym)
    have hk0 : 0 ≤ (k : Int) ∧ (k : Int) < c.same.length := by rw [h.len]; omega
    have lx := srun_len' (R := f.regs.toNat) x.ins
    have ly := srun_len' (R := f.regs.toNat) y.ins
    have hrl : (c.at' (k : Int)).length = f.regs.toNat := cert_row (fun r h0 => by have := h.rows r h0; omega) hk0
    show gsame (f.regs + 1).toNat x y (extC b c) (k : Int) x.nexts
    rw [hR]
    unfold gsame
    rw [e1, e2, ext_at b hk0]
    refine ⟨g1, fun e he => ⟨oinR_ext b (g2 e he).1, oinR_ext b (g2 e he).2⟩, fun hf2 => ?_, fun q hq j hj => ?_⟩
    · obtain ⟨u1, u2⟩ := g3 hf2
      have hv := hS.v x hxm hf2
      have hvy := hN.v y hym ((hV.b k x y hkx hky).1.symm.trans hf2)
      have t1 : tget ((srun (symR f.regs.toNat) x.ins).more f.regs.toNat).regs x.v = tget (srun (symR f.regs.toNat) x.ins).regs x.v := tget_more (by rw [lx]; omega) _
      have t2 : tget ((srun (symR f.regs.toNat) y.ins).more f.regs.toNat).regs y.v = tget (srun (symR f.regs.toNat) y.ins).regs y.v := tget_more (by rw [ly]; have := hV.regs; omega) _
      rw [t1, t2]
      exact ⟨u1, Tm.inR_ext b u2⟩
    · have hqr := hS.next x hxm q hq
      have hq0 : 0 ≤ q ∧ q < c.same.length := by rw [h.len]; exact hqr
      have hql : (c.at' q).length = f.regs.toNat := cert_row (fun r h0 => by have := h.rows r h0; omega) hq0
      rw [ext_at b hq0] at hj
      by_cases hjr : j < f.regs.toNat
      · rw [List.getElem?_append_left (by omega)] at hj
        obtain ⟨u1, u2⟩ := g4 q hq j hj
        have t1 : tget ((srun (symR f.regs.toNat) x.ins).more f.regs.toNat).regs (j : Int) = tget (srun (symR f.regs.toNat) x.ins).regs (j : Int) := tget_more (by rw [lx]; omega) _
        have t2 : tget ((srun (symR f.regs.toNat) y.ins).more f.regs.toNat).regs (j : Int) = tget (srun (symR f.regs.toNat) y.ins).regs (j : Int) := tget_more (by rw [ly]; omega) _
        rw [t1, t2]
        exact ⟨u1, Tm.inR_ext b u2⟩
      · have hje : j = f.regs.toNat := by
          have := (List.getElem?_eq_some_iff.1 hj).1
          simp only [List.length_append, List.length_cons, List.length_nil] at this
          omega
        subst hje
        have hb : b = true := by
          rw [List.getElem?_append_right (by omega), hql, Nat.sub_self] at hj
          simpa using hj
        subst hb
        have tl : ∀ {l : List Tm} {n : Nat}, l.length = n → tget (l ++ [.old n]) (n : Int) = .old n := fun {l n} hl => by
          unfold tget
          rw [Int.toNat_natCast, List.getElem?_append_right (by omega), hl, Nat.sub_self]; rfl
        have t1 : tget ((srun (symR f.regs.toNat) x.ins).more f.regs.toNat).regs (f.regs.toNat : Int) = .old f.regs.toNat := tl lx
        have t2 : tget ((srun (symR f.regs.toNat) y.ins).more f.regs.toNat).regs (f.regs.toNat : Int) = .old f.regs.toNat := tl ly
        rw [t1, t2]
        refine ⟨rfl, ?_⟩
        show (c.at' (k : Int) ++ [true])[f.regs.toNat]? = some true
        rw [List.getElem?_append_right (by omega), hrl, Nat.sub_self]; rfl
end Go.Proofs.Ytpijoieooikfgaa.Sv

namespace Go.Proofs.Ytpijoieooikfgaa.Sv
open Go
section
variable {P : Program} {T : Nat → Option TyI} {o : Oper} {e : AEnv} {h : AHeap}
theorem o_copy (hT : TOk P T) {t t' : TypeId} {x y : Operand} {i i' j : TyI} {u u' : Nat} {ex2 : Bool} {es2 : List (List AV)} (b : Nat)
    (ho : o.op = .call { callee := .builtin .append, args := #[x, y], argTypes := #[t, t'] }) (hx : look e x = some (.lst true [])) (hy : look e y = some (.lst ex2 es2)) (hi : T t = some i) (hk : i.k = .slice u) (hj : T u = some j) (hi' : T t' = some i') (hk' : i'.k = .slice u')
    (hb : h b = some .free) (hz : j.zero.length = j.size) (hp : 0 < j.size)
    (hu2 : ∀ cs ∈ es2, cs.length = j.size) (hpure : ∀ cs ∈ es2, cs.all AV.isPure1 = true) (hne : 0 < es2.length)
    (hby : es2.length * j.bytes ≤ 140737488355328) (hml : es2.length ≤ maxLen) :
    OLoc P o e h [b] [(b, .row true j.size es2)] (some (.ref b es2.length 0 es2.length)) := by
  have hie : es2.isEmpty = false := by cases es2 with | nil => simp at hne | cons => rfl
  have := o_appendJ (f := true) (es := []) (sz := j.size) hT b ho hx hy hi hk hj hi' hk' hb rfl hz hp (by intro cs h; cases h) (by intro cs h; cases h) hu2 hpure (by simpa using hby) (by simpa using hml)
  simpa [jAV, jObj, hie] using this
end
end Go.Proofs.Ytpijoieooikfgaa.Sv

namespace Go.Proofs.Ytpijoieooikfgaa.Sv
open Go
theorem fin34_mem {b : Blocks} {f g : BFunc} (h : g ∈ (b.fin34 f).funcs) : g ∈ b.funcs ∨ g = f := List.mem_or_eq_of_mem_set h
theorem fin34_insW {b : Blocks} {f : BFunc} (h : b.insW) (hf : f.words) : (b.fin34 f).insW := fun g hg => by
  rcases fin34_mem hg with hg | rfl
  · exact h g hg
  · exact hf
theorem ok_insW {b : Blocks} (h : b.Ok) : b.insW := fun f hf x hx => (h.funcs f hf).insW hx
theorem ok_lens {b : Blocks} (h : b.Ok) : ∀ f ∈ b.funcs, ∀ x ∈ f.blocks, x.ins.length ≤ maxLen := fun f hf x hx => by
  have := (h.funcs f hf).insB x hx
  simp only [big, maxLen] at *; omega
theorem fin34_lens {b : Blocks} {f : BFunc} (h : b.Ok) (hf : ∀ x ∈ f.blocks, x.ins.length ≤ 10000) : ∀ g ∈ (b.fin34 f).funcs, ∀ x ∈ g.blocks, x.ins.length ≤ maxLen := fun g hg x hx => by
  rcases fin34_mem hg with hg | rfl
  · exact ok_lens h g hg x hx
  · have := hf x hx
    simp only [maxLen]; omega
theorem funcs_len2 (l : List BFunc) : ∀ cs ∈ l.map BFunc.cells, cs.length = 2 := fun cs hc => by
  obtain ⟨f, _, rfl⟩ := List.mem_map.1 hc; rfl
theorem funcs_pure (l : List BFunc) : ∀ cs ∈ l.map BFunc.cells, cs.all AV.isPure1 = true := fun cs hc => by
  obtain ⟨f, _, rfl⟩ := List.mem_map.1 hc; rfl
theorem set_all {α : Type} (l : List α) (f : α → List AV) (k : Nat) (x : α) : ((((l.map f).set (0 + ((k : Nat) : Int).toNat) (f x)).drop 0).take (l.map f).length) = (l.set k x).map f := by
  rw [Nat.zero_add, Int.toNat_natCast, List.drop_zero, List.take_of_length_le (by simp), List.map_set]
end Go.Proofs.Ytpijoieooikfgaa.Sv

namespace Go.Proofs.Ytpijoieooikfgaa.Sv
open Go
variable {P : Program} {T : Nat → Option TyI} {ops : Array Oper} {rest : List Oper} {n : Nat} {e : AEnv} {h : AHeap} {o : Oper} {K : AState → Prop} {acc : List (List Nat × List Nat)} {R : List Nat} {W : List (Nat × AObj)} {r p : AV}
theorem aq (d : Nat) (hq : QLoc P o e h R r) (hr : AOps P ops rest ⟨n, eput e d r, h⟩ K) (hd : o.dst = some d := by exact rfl) (hb : Nat.blt d n = true := by exact rfl) (hg : guardIs ops o e = some true := by exact rfl) : AOps P ops (o :: rest) ⟨n, e, h⟩ K := AOps.s d hd hb hg hq hr
theorem ax (d : Nat) (hq : OLoc P o e h R W (some r)) (hr : AOps P ops rest ⟨n, eput e d r, (hputs h W)⟩ K) (hd : o.dst = some d := by exact rfl) (hb : Nat.blt d n = true := by exact rfl) (hg : guardIs ops o e = some true := by exact rfl) : AOps P ops (o :: rest) ⟨n, e, h⟩ K := AOps.x d hd hb hg hq hr
theorem ak (d : Nat) (hr : AOps P ops rest ⟨n, eput e d (.tup []), h⟩ K) (hd : o.dst = some d := by exact rfl) (hb : Nat.blt d n = true := by exact rfl) (hg : guardIs ops o e = some false := by exact rfl) : AOps P ops (o :: rest) ⟨n, e, h⟩ K := AOps.k d hd hb hg hr
theorem am (d : Nat) {x : Operand} (hr : AOps P ops rest ⟨n, eput e d r, h⟩ K) (hd : o.dst = some d := by exact rfl) (hb : Nat.blt d n = true := by exact rfl) (hg : guardIs ops o e = some true := by exact rfl) (ho : o.op = .move x := by exact rfl) (hx : look e x = some r := by exact rfl) : AOps P ops (o :: rest) ⟨n, e, h⟩ K := AOps.s d hd hb hg (q_move (.inl ho) hx) hr
theorem aa (d : Nat) {x : Operand} (hr : AOps P ops rest ⟨n, eput e d r, h⟩ K) (hd : o.dst = some d := by exact rfl) (hb : Nat.blt d n = true := by exact rfl) (hg : guardIs ops o e = some true := by exact rfl) (ho : o.op = .assign x := by exact rfl) (hx : look e x = some r := by exact rfl) : AOps P ops (o :: rest) ⟨n, e, h⟩ K := AOps.s d hd hb hg (q_move (.inr ho) hx) hr
theorem al (d : Nat) {t : TypeId} {x : Operand} {i : TyI} {cs : List AV} (hT : TOk P T) (hr : AOps P ops rest ⟨n, eput e d r, h⟩ K) (hd : o.dst = some d := by exact rfl) (hb : Nat.blt d n = true := by exact rfl) (hg : guardIs ops o e = some true := by exact rfl) (ho : o.op = .load t x := by exact rfl) (hx : look e x = some p := by exact rfl) (hi : T t = some i := by exact rfl) (hp : PtsTo h p R cs := by first | exact .loc _ | exact .ptr _ _ _ _ _ _ _ _ rfl rfl rfl) (hl : loadAV i cs = some r := by exact rfl) : AOps P ops (o :: rest) ⟨n, e, h⟩ K := AOps.s d hd hb hg (q_load hT ho hx hi hp hl) hr
theorem af (d : Nat) {t : TypeId} {x : Operand} {f off u : Nat} {i : TyI} {fs : List (Nat × Nat)} (hT : TOk P T) (hr : AOps P ops rest ⟨n, eput e d r, h⟩ K) (hd : o.dst = some d := by exact rfl) (hb : Nat.blt d n = true := by exact rfl) (hg : guardIs ops o e = some true := by exact rfl) (ho : o.op = .fieldAddr t x f := by exact rfl) (hx : look e x = some p := by exact rfl) (hi : T t = some i := by exact rfl) (hk : i.k = .struct fs := by exact rfl) (hf : fs[f]? = some (off, u) := by exact rfl) (hm : moveAV p off = some r := by exact rfl) : AOps P ops (o :: rest) ⟨n, e, h⟩ K := AOps.s d hd hb hg (q_fieldAddr hT ho hx hi hk hf hm) hr
theorem dq (d : Nat) (hq : QLoc P o e h R r) (hr : DOps P ops n rest (eput e d r) h (acc ++ [(R, [])]) K) (hd : o.dst = some d := by exact rfl) (hb : Nat.blt d n = true := by exact rfl) (hg : guardIs ops o e = some true := by exact rfl) : DOps P ops n (o :: rest) e h acc K := DOps.s d hd hb hg hq hr
theorem dx (d : Nat) (hq : OLoc P o e h R W (some r)) (hr : DOps P ops n rest (eput e d r) (hputs h W) (acc ++ [(R, W.map (·.1))]) K) (hd : o.dst = some d := by exact rfl) (hb : Nat.blt d n = true := by exact rfl) (hg : guardIs ops o e = some true := by exact rfl) : DOps P ops n (o :: rest) e h acc K := DOps.x d hd hb hg hq hr
theorem dk (d : Nat) (hr : DOps P ops n rest (eput e d (.tup [])) h (acc ++ [([], [])]) K) (hd : o.dst = some d := by exact rfl) (hb : Nat.blt d n = true := by exact rfl) (hg : guardIs ops o e = some false := by exact rfl) : DOps P ops n (o :: rest) e h acc K := DOps.u d hd hb hg hr
theorem dm (d : Nat) {x : Operand} (hr : DOps P ops n rest (eput e d r) h (acc ++ [([], [])]) K) (hd : o.dst = some d := by exact rfl) (hb : Nat.blt d n = true := by exact rfl) (hg : guardIs ops o e = some true := by exact rfl) (ho : o.op = .move x := by exact rfl) (hx : look e x = some r := by exact rfl) : DOps P ops n (o :: rest) e h acc K := DOps.s d hd hb hg (q_move (.inl ho) hx) hr
theorem da (d : Nat) {x : Operand} (hr : DOps P ops n rest (eput e d r) h (acc ++ [([], [])]) K) (hd : o.dst = some d := by exact rfl) (hb : Nat.blt d n = true := by exact rfl) (hg : guardIs ops o e = some true := by exact rfl) (ho : o.op = .assign x := by exact rfl) (hx : look e x = some r := by exact rfl) : DOps P ops n (o :: rest) e h acc K := DOps.s d hd hb hg (q_move (.inr ho) hx) hr
theorem dl (d : Nat) {t : TypeId} {x : Operand} {i : TyI} {cs : List AV} (hT : TOk P T) (hr : DOps P ops n rest (eput e d r) h (acc ++ [(R, [])]) K) (hd : o.dst = some d := by exact rfl) (hb : Nat.blt d n = true := by exact rfl) (hg : guardIs ops o e = some true := by exact rfl) (ho : o.op = .load t x := by exact rfl) (hx : look e x = some p := by exact rfl) (hi : T t = some i := by exact rfl) (hp : PtsTo h p R cs := by first | exact .loc _ | exact .ptr _ _ _ _ _ _ _ _ rfl rfl rfl) (hl : loadAV i cs = some r := by exact rfl) : DOps P ops n (o :: rest) e h acc K := DOps.s d hd hb hg (q_load hT ho hx hi hp hl) hr
theorem df (d : Nat) {t : TypeId} {x : Operand} {f off u : Nat} {i : TyI} {fs : List (Nat × Nat)} (hT : TOk P T) (hr : DOps P ops n rest (eput e d r) h (acc ++ [([], [])]) K) (hd : o.dst = some d := by exact rfl) (hb : Nat.blt d n = true := by exact rfl) (hg : guardIs ops o e = some true := by exact rfl) (ho : o.op = .fieldAddr t x f := by exact rfl) (hx : look e x = some p := by exact rfl) (hi : T t = some i := by exact rfl) (hk : i.k = .struct fs := by exact rfl) (hf : fs[f]? = some (off, u) := by exact rfl) (hm : moveAV p off = some r := by exact rfl) : DOps P ops n (o :: rest) e h acc K := DOps.s d hd hb hg (q_fieldAddr hT ho hx hi hk hf hm) hr
end Go.Proofs.Ytpijoieooikfgaa.Sv

namespace Go.Proofs.Ytpijoieooikfgaa.Sv
open Go

set_option maxHeartbeats 1000000 in
set_option maxRecDepth 100000 in
theorem put34_ok (b : Blocks) (f : BFunc) (hne : 0 < b.funcs.length) (hn : b.funcs.length ≤ 10000) : APure Try.prog 19 [.agg b.cells, .int .i64 ((b.funcs.length - 1 : Nat) : Int), .agg f.cells] (fun r => r = .agg (b.fin34 f).cells) := by
 obtain ⟨f0, hf0⟩ := get_of_lt (l := b.funcs) (k := b.funcs.length - 1) (by omega)
 refine APure.of_body (n := 21) tok Try.func19 rfl rfl ?_
 refine AGo.seq ?_
 refine AGo.region ?_
 refine ax 3 (o_box (sz := 2) 0 rfl rfl rfl rfl (Nat.zero_lt_succ _) rfl) ?_
 refine ax 5 (o_box (sz := 2) 1 rfl rfl rfl rfl (Nat.zero_lt_succ _) rfl) ?_
 refine ax 6 (o_alloc tok 2 rfl rfl rfl rfl (Nat.zero_lt_succ _) rfl) ?_
 refine AOps.nil ?_
 refine AGo.seq ?_
 refine AGo.draw mix ?_
 refine df 8 tok ?_
 refine dl 9 tok ?_
 refine dx 10 (o_lit tok rfl rfl rfl rfl rfl rfl (by decide) rfl rfl rfl rfl rfl rfl) ?_
 refine df 11 tok ?_
 refine dl 12 tok ?_
 refine dx 13 (o_copy tok 5 rfl rfl rfl rfl rfl rfl rfl rfl rfl rfl (Nat.zero_lt_succ _) (funcs_len2 _) (funcs_pure _) (by rw [List.length_map]; exact hne) (by rw [List.length_map]; show _ * 32 ≤ _; omega) (by rw [List.length_map]; simp only [maxLen]; omega)) ?_
 refine dq 14 (q_build tok rfl rfl rfl rfl rfl (by decide) rfl rfl rfl) ?_
 refine dx 7 (o_alloc tok 3 rfl rfl rfl rfl (Nat.zero_lt_succ _) rfl) ?_
 refine DOps.w rfl rfl (o_store tok rfl rfl rfl rfl rfl rfl rfl rfl rfl (by decide) rfl (by first | exact fun _ => rfl | (intro h; cases h))) ?_
 refine DOps.nil (by kernel_rfl) ?_
 refine AGo.seq ?_
 refine AGo.region ?_
 refine af 15 tok ?_
 refine al 16 tok ?_
 refine am 17 ?_
 refine al 18 tok ?_
 refine aq 19 (q_index_ref tok rfl rfl rfl rfl rfl rfl rfl rfl rfl (Int.natCast_nonneg _) (by rw [List.length_map]; omega)) ?_
 refine AOps.w rfl rfl (o_store tok rfl rfl rfl rfl rfl rfl rfl (by rw [Nat.zero_add, Int.toNat_natCast, List.getElem?_map, hf0]; rfl) rfl (by decide) rfl (by first | exact fun _ => rfl | (intro h; cases h))) ?_
 refine AOps.nil ?_
 refine AGo.seq ?_
 refine AGo.region ?_
 refine al 20 tok ?_
 refine AOps.w rfl rfl (o_store tok rfl rfl rfl rfl rfl rfl rfl rfl rfl (by decide) rfl (by first | exact fun _ => rfl | (intro h; cases h))) ?_
 refine AOps.nil ?_
 refine AGo.ghost (.freezeCell 2 0 1 5 rfl rfl rfl rfl (by rw [List.length_set]) (by decide)) ?_
 refine AGo.ret ?_
 refine ⟨[_], ⟨⟨_, _, _, _, rfl, rfl, .ptr _ _ _ _ _ _ _ _ rfl rfl rfl, rfl⟩, trivial⟩, ?_, rfl⟩
 refine congrArg AV.agg ?_
 show [AV.int .i64 b.words, AV.lst false _] = [AV.int .i64 b.words, AV.lst false _]
 rw [show ∀ l : List (List AV), l = ((b.fin34 f).funcs.map BFunc.cells) → [AV.int .i64 b.words, AV.lst false l] = [AV.int .i64 b.words, AV.lst false ((b.fin34 f).funcs.map BFunc.cells)] from fun l h => by rw [h]]
 exact set_all b.funcs BFunc.cells (b.funcs.length - 1) f

end Go.Proofs.Ytpijoieooikfgaa.Sv

namespace Go.Proofs.Ytpijoieooikfgaa.Sv
open Go

set_option maxRecDepth 100000 in
theorem one34_ok (l : List Tac) : APure Try.prog 24 [insAV l] (fun r => r = .agg (oneF l).cells) := by
 refine APure.of_body (n := 7) tok Try.func24 rfl rfl ?_
 refine AGo.seq ?_
 refine AGo.region ?_
 refine ax 2 (o_alloc tok 0 rfl rfl rfl rfl (Nat.zero_lt_succ _) rfl) ?_
 refine AOps.nil ?_
 refine AGo.seq ?_
 refine AGo.region ?_
 refine am 3 ?_
 refine aq 4 (q_build tok rfl rfl rfl rfl rfl (by decide) rfl rfl rfl) ?_
 refine ax 5 (o_lit' tok rfl rfl rfl rfl rfl rfl (by decide) rfl rfl rfl rfl rfl rfl) ?_
 refine aq 6 (q_build tok rfl rfl rfl rfl rfl (by decide) rfl rfl rfl) ?_
 refine AOps.w rfl rfl (o_store tok rfl rfl rfl rfl rfl rfl rfl rfl rfl (by decide) rfl (by first | exact fun _ => rfl | (intro h; cases h))) ?_
 refine AOps.nil ?_
 refine AGo.ret ?_
 refine ⟨[_], ⟨⟨_, _, _, _, rfl, rfl, .ptr _ _ _ _ _ _ _ _ rfl rfl rfl, rfl⟩, trivial⟩, ?_, rfl⟩
 rfl

set_option maxRecDepth 100000 in
theorem none34_ok  : APure Try.prog 25 [] (fun r => r = .agg noneC.cells) := by
 refine APure.of_body (n := 4) tok Try.func25 rfl rfl ?_
 refine AGo.seq ?_
 refine AGo.region ?_
 refine ax 0 (o_alloc tok 0 rfl rfl rfl rfl (Nat.zero_lt_succ _) rfl) ?_
 refine AOps.nil ?_
 refine AGo.seq ?_
 refine AGo.region ?_
 refine ax 1 (o_lit' tok rfl rfl rfl rfl rfl rfl (by decide) rfl rfl rfl rfl rfl rfl) ?_
 refine ax 2 (o_lit' tok rfl rfl rfl rfl rfl rfl (by decide) rfl rfl rfl rfl rfl rfl) ?_
 refine aq 3 (q_build tok rfl rfl rfl rfl rfl (by decide) rfl rfl rfl) ?_
 refine AOps.w rfl rfl (o_store tok rfl rfl rfl rfl rfl rfl rfl rfl rfl (by decide) rfl (by first | exact fun _ => rfl | (intro h; cases h))) ?_
 refine AOps.nil ?_
 refine AGo.ret ?_
 refine ⟨[_], ⟨⟨_, _, _, _, rfl, rfl, .ptr _ _ _ _ _ _ _ _ rfl rfl rfl, rfl⟩, trivial⟩, ?_, rfl⟩
 rfl

set_option maxRecDepth 100000 in
theorem one34n_ok  : APure Try.prog 24 [.nil] (fun r => r = .agg (oneF []).cells) := by
 refine APure.of_body (n := 7) tok Try.func24 rfl rfl ?_
 refine AGo.seq ?_
 refine AGo.ghost (.empty 0 rfl) ?_
 refine AGo.region ?_
 refine ax 2 (o_alloc tok 0 rfl rfl rfl rfl (Nat.zero_lt_succ _) rfl) ?_
 refine AOps.nil ?_
 refine AGo.seq ?_
 refine AGo.region ?_
 refine am 3 ?_
 refine aq 4 (q_build tok rfl rfl rfl rfl rfl (by decide) rfl rfl rfl) ?_
 refine ax 5 (o_lit' tok rfl rfl rfl rfl rfl rfl (by decide) rfl rfl rfl rfl rfl rfl) ?_
 refine aq 6 (q_build tok rfl rfl rfl rfl rfl (by decide) rfl rfl rfl) ?_
 refine AOps.w rfl rfl (o_store tok rfl rfl rfl rfl rfl rfl rfl rfl rfl (by decide) rfl (by first | exact fun _ => rfl | (intro h; cases h))) ?_
 refine AOps.nil ?_
 refine AGo.ret ?_
 refine ⟨[_], ⟨⟨_, _, _, _, rfl, rfl, .ptr _ _ _ _ _ _ _ _ rfl rfl rfl, rfl⟩, trivial⟩, ?_, rfl⟩
 rfl

set_option maxHeartbeats 2000000 in
set_option maxRecDepth 100000 in
theorem vweak_ok (f : BFunc) (hr : 0 ≤ f.regs ∧ f.regs ≤ 10000) (hn : f.blocks.length ≤ 10000) : APure Try.prog 17 [.agg f.cells] (fun r => r = .agg (vweak f).cells) := by
 refine APure.of_body (n := 43) tok Try.func17 rfl rfl ?_
 refine AGo.seq ?_
 refine AGo.region ?_
 refine ax 1 (o_box (sz := 2) 0 rfl rfl rfl rfl (Nat.zero_lt_succ _) rfl) ?_
 refine ax 2 (o_alloc tok 1 rfl rfl rfl rfl (Nat.zero_lt_succ _) rfl) ?_
 refine AOps.nil ?_
 refine AGo.seq ?_
 refine AGo.region ?_
 refine af 6 tok ?_
 refine al 7 tok ?_
 refine aq 8 (q_len tok rfl rfl rfl rfl rfl) ?_
 refine ax 9 (o_makeSlice tok (n := f.blocks.length) (m := f.blocks.length) 2 false rfl rfl rfl (by simp) (by simp) rfl rfl rfl rfl rfl (Nat.zero_lt_succ _) rfl (Nat.le_refl _) (by show 24 * f.blocks.length ≤ _; omega) (by simp only [maxLen]; omega)) ?_
 refine aq 10 (q_build tok rfl rfl rfl rfl rfl (by decide) rfl rfl rfl) ?_
 refine ax 3 (o_alloc tok 3 rfl rfl rfl rfl (Nat.zero_lt_succ _) rfl) ?_
 refine AOps.w rfl rfl (o_store tok rfl rfl rfl rfl rfl rfl rfl rfl rfl (by decide) rfl (by first | exact fun _ => rfl | (intro h; cases h))) ?_
 refine AOps.nil ?_
 refine AGo.seq ?_
 refine AGo.seq ?_
 refine AGo.region ?_
 refine af 11 tok ?_
 refine al 12 tok ?_
 refine aq 13 (q_len tok rfl rfl rfl rfl rfl) ?_
 refine am 14 ?_
 refine AOps.nil ?_
 refine AGo.block ?_
 refine AGo.loopD (γ := Nat) 4 (fun k => ⟨43, (eput (eput (eput (eput (eput eNew 1 (.ptr 0 1 0 0)) 2 (.ptr 1 1 0 0)) 3 (.ptr 3 1 0 0)) 13 (.int .i64 (f.blocks.length : Int))) 14 (.int .i64 (k : Int))), (hput (hput (hput (hput (hFrom 4) 0 (.row false 2 [f.cells])) 1 (.row false 1 [[.nil]])) 3 (.row false 1 [[.ref 2 f.blocks.length 0 f.blocks.length]])) 2 (.row false 1 (((List.replicate f.blocks.length (List.replicate f.regs.toNat true)).take (k)).map rowCell ++ List.replicate (f.blocks.length - (k)) [AV.nil])))⟩) (fun k => k ≤ f.blocks.length) (fun k => f.blocks.length - k) 0 (Sub.mk' (by repeat (first | exact ESub.new _ | refine ESub.put ?_ (by first | rfl | exact congrArg (fun (n : Nat) => some (AV.int .i64 (n : Int))) (by simp)))) (by repeat (first | exact HSub.refl _ | exact HSub.none _ | exact HSub.from_new _ | exact HSub.from_from (by first | decide | omega | (dsimp only; omega)) | refine HSub.put ?_ (by rfl) | refine HSub.from_put ?_ (by first | decide | omega | (dsimp only; omega)) | refine HSub.from_rm ?_ (by decide)))) (Nat.zero_le _) (fun _ => hput_free (hput_free (hput_free (hput_free (fun b hb => hFrom_free hb) rfl) rfl) rfl) rfl) ?_
 intro k hk
 refine AGo.seq ?_
 refine AGo.region ?_
 refine aq 15 (q_bin rfl rfl rfl rfl) ?_
 refine AOps.nil ?_
 refine AGo.seq ?_
 refine AGo.split 15 rfl (fun hb1 => ?_) (fun hb1 => ?_)
 ·
  refine AGo.cond_true true rfl rfl ?_
  have hkl : k < f.blocks.length := by simpa using hb1
  refine AGo.skip ?_
  refine AGo.seq ?_
  refine AGo.block ?_
  refine AGo.seq ?_
  refine AGo.region ?_
  refine am 16 ?_
  refine aa 4 ?_
  refine AOps.nil ?_
  refine AGo.seq ?_
  refine AGo.draw mix ?_
  refine df 17 tok ?_
  refine dl 18 tok ?_
  refine dm 19 ?_
  refine df 20 tok ?_
  refine dl 21 tok ?_
  refine dx 22 (o_makeSlice tok (n := f.regs.toNat) (m := f.regs.toNat) 4 true rfl rfl rfl (by omega) (by omega) rfl rfl rfl rfl rfl (Nat.zero_lt_succ _) rfl (Nat.le_refl _) (by show 1 * f.regs.toNat ≤ _; omega) (by simp only [maxLen]; omega)) ?_
  refine dq 23 (q_index_ref tok rfl rfl rfl rfl rfl rfl rfl (fill_len (by simp : ((List.replicate f.blocks.length (List.replicate f.regs.toNat true))).length = f.blocks.length) (Nat.le_of_lt hkl)) rfl (Int.natCast_nonneg _) (by omega)) ?_
  refine DOps.w rfl rfl (o_store tok rfl rfl rfl rfl rfl rfl (fill_len (by simp : ((List.replicate f.blocks.length (List.replicate f.regs.toNat true))).length = f.blocks.length) (Nat.le_of_lt hkl)) (fill_get (by simp : ((List.replicate f.blocks.length (List.replicate f.regs.toNat true))).length = f.blocks.length) hkl) rfl (by decide) rfl (by first | exact fun _ => rfl | (intro h; cases h))) ?_
  refine DOps.nil (by kernel_rfl) ?_
  refine AGo.seq ?_
  refine AGo.region ?_
  refine af 24 tok ?_
  refine al 25 tok ?_
  refine am 26 ?_
  refine aq 27 (q_index_ref tok rfl rfl rfl rfl rfl rfl rfl (by rw [List.length_set]; exact (fill_len (by simp : ((List.replicate f.blocks.length (List.replicate f.regs.toNat true))).length = f.blocks.length) (Nat.le_of_lt hkl))) rfl (Int.natCast_nonneg _) (by omega)) ?_
  refine aq 28 (q_load tok rfl rfl rfl (.ptr _ _ _ _ _ _ _ _ rfl (by rw [List.length_set]; exact (fill_len (by simp : ((List.replicate f.blocks.length (List.replicate f.regs.toNat true))).length = f.blocks.length) (Nat.le_of_lt hkl))) (get_set_self0 (fill_get (by simp : ((List.replicate f.blocks.length (List.replicate f.regs.toNat true))).length = f.blocks.length) hkl))) rfl) ?_
  refine aq 29 (q_len tok rfl rfl rfl rfl rfl) ?_
  refine am 30 ?_
  refine AOps.nil ?_
  refine AGo.block ?_
  refine AGo.loopD (γ := Nat) 5 (fun j => ⟨43, (eput (eput (eput (eput (eput (eput (eput (eput eNew 1 (.ptr 0 1 0 0)) 2 (.ptr 1 1 0 0)) 3 (.ptr 3 1 0 0)) 13 (.int .i64 (f.blocks.length : Int))) 14 (.int .i64 (k : Int))) 4 (.int .i64 (k : Int))) 29 (.int .i64 (f.regs.toNat : Int))) 30 (.int .i64 (j : Int))), (hput (hput (hput (hput (hput (hFrom 5) 0 (.row false 2 [f.cells])) 1 (.row false 1 [[.nil]])) 3 (.row false 1 [[.ref 2 f.blocks.length 0 f.blocks.length]])) 2 (.row false 1 ((((List.replicate f.blocks.length (List.replicate f.regs.toNat true)).take (k)).map rowCell ++ List.replicate (f.blocks.length - (k)) [AV.nil]).set (0 + ((k : Nat) : Int).toNat) [AV.ref 4 f.regs.toNat 0 f.regs.toNat]))) 4 (.row true 1 (((List.replicate f.regs.toNat true).take (j)).map boolCells ++ List.replicate (f.regs.toNat - (j)) [AV.bool false])))⟩) (fun j => j ≤ f.regs.toNat) (fun j => f.regs.toNat - j) 0 (Sub.mk' (by repeat (first | exact ESub.new _ | refine ESub.put ?_ (by first | rfl | exact congrArg (fun (n : Nat) => some (AV.int .i64 (n : Int))) (by simp)))) (by repeat (first | exact HSub.refl _ | exact HSub.none _ | exact HSub.from_new _ | exact HSub.from_from (by first | decide | omega | (dsimp only; omega)) | refine HSub.put ?_ (by rfl) | refine HSub.from_put ?_ (by first | decide | omega | (dsimp only; omega)) | refine HSub.from_rm ?_ (by decide)))) (Nat.zero_le _) (fun _ => hput_free (hput_free (hput_free (hput_free (hput_free (fun b hb => hFrom_free hb) rfl) rfl) rfl) rfl) rfl) ?_
  intro j hj
  refine AGo.seq ?_
  refine AGo.region ?_
  refine aq 31 (q_bin rfl rfl rfl rfl) ?_
  refine AOps.nil ?_
  refine AGo.seq ?_
  refine AGo.split 31 rfl (fun hb2 => ?_) (fun hb2 => ?_)
  ·
   refine AGo.cond_true true rfl rfl ?_
   have hjl : j < f.regs.toNat := by have h := hb2; simp only [decide_eq_true_eq] at h; omega
   refine AGo.skip ?_
   refine AGo.seq ?_
   refine AGo.block ?_
   refine AGo.seq ?_
   refine AGo.region ?_
   refine am 32 ?_
   refine aa 5 ?_
   refine AOps.nil ?_
   refine AGo.region ?_
   refine af 33 tok ?_
   refine al 34 tok ?_
   refine am 35 ?_
   refine aq 36 (q_index_ref tok rfl rfl rfl rfl rfl rfl rfl (by rw [List.length_set]; exact (fill_len (by simp : ((List.replicate f.blocks.length (List.replicate f.regs.toNat true))).length = f.blocks.length) (Nat.le_of_lt hkl))) rfl (Int.natCast_nonneg _) (by omega)) ?_
   refine aq 37 (q_load tok rfl rfl rfl (.ptr _ _ _ _ _ _ _ _ rfl (by rw [List.length_set]; exact (fill_len (by simp : ((List.replicate f.blocks.length (List.replicate f.regs.toNat true))).length = f.blocks.length) (Nat.le_of_lt hkl))) (get_set_self0 (fill_get (by simp : ((List.replicate f.blocks.length (List.replicate f.regs.toNat true))).length = f.blocks.length) hkl))) rfl) ?_
   refine am 38 ?_
   refine aq 39 (q_index_ref tok rfl rfl rfl rfl rfl rfl rfl (fill_len (by simp : ((List.replicate f.regs.toNat true)).length = f.regs.toNat) (Nat.le_of_lt hjl)) rfl (Int.natCast_nonneg _) (by omega)) ?_
   refine AOps.w rfl rfl (o_store tok rfl rfl rfl rfl rfl rfl (fill_len (by simp : ((List.replicate f.regs.toNat true)).length = f.regs.toNat) (Nat.le_of_lt hjl)) (fill_get (by simp : ((List.replicate f.regs.toNat true)).length = f.regs.toNat) hjl) rfl (by decide) rfl (by first | exact fun _ => rfl | (intro h; cases h))) ?_
   refine AOps.nil ?_
   refine AGo.region ?_
   refine aq 40 (q_inc rfl rfl hjl (show f.regs.toNat ≤ maxLen by simp only [maxLen]; omega)) ?_
   refine am 30 ?_
   refine AOps.nil ?_
   exact ⟨j+1, Drop.mk' (by repeat (first | exact EDrop.new _ _ | refine EDrop.put ?_ (by rfl) (by first | rfl | exact slA_avoid _ rfl | exact vaA_avoid _ rfl))) (by repeat (first | exact HDrop.none _ _ | exact HDrop.tail _ _ | refine HDrop.put ?_ (by first | rfl | exact congrArg (fun es => some (AObj.row true 1 es)) (fill_put (f := boolCells) (x := true) (by simp : ((List.replicate f.regs.toNat true)).length = f.regs.toNat) (by simp [hjl]))) rfl (by first | rfl | exact weak_avoid2 _ _))), hjl, by omega⟩
  ·
   refine AGo.cond_false false rfl rfl ?_
   have hjge : f.regs.toNat ≤ j := by have h := hb2; simp only [decide_eq_false_iff_not] at h; omega
   refine AGo.exit ?_
   refine AGo.ghost (.freezeCell 2 (0 + ((k : Nat) : Int).toNat) 0 4 rfl (get_set_self0 (fill_get (by simp : ((List.replicate f.blocks.length (List.replicate f.regs.toNat true))).length = f.blocks.length) hkl)) rfl rfl (fill_len (by simp : ((List.replicate f.regs.toNat true)).length = f.regs.toNat) hj) (by decide)) ?_
   rw [fill_end (by simp : ((List.replicate f.regs.toNat true)).length = f.regs.toNat) hjge]
   refine AGo.region ?_
   refine aq 41 (q_inc rfl rfl hkl (show f.blocks.length ≤ maxLen by simp only [maxLen]; omega)) ?_
   refine am 14 ?_
   refine AOps.nil ?_
   exact ⟨k+1, Drop.mk' (by repeat (first | exact EDrop.new _ _ | refine EDrop.put ?_ (by rfl) (by first | rfl | exact slA_avoid _ rfl | exact vaA_avoid _ rfl))) (by repeat (first | exact HDrop.none _ _ | exact HDrop.tail _ _ | refine HDrop.put ?_ (by first | rfl | exact congrArg (fun es => some (AObj.row false 1 es)) (by rw [← fill_put (f := rowCell) (z := [AV.nil]) (by simp : ((List.replicate f.blocks.length (List.replicate f.regs.toNat true))).length = f.blocks.length) (by simp [hkl] : ((List.replicate f.blocks.length (List.replicate f.regs.toNat true)))[k]? = some (List.replicate f.regs.toNat true)), List.set_set]; rfl)) rfl (by first | rfl | exact weak_avoid _))), hkl, by omega⟩
 ·
  refine AGo.cond_false false rfl rfl ?_
  have hge : f.blocks.length ≤ k := by simpa using hb1
  refine AGo.exit ?_
  refine AGo.seq ?_
  refine AGo.ghost (.plain 2 rfl (weak_pure hge)) ?_
  refine AGo.ghost (.freezeCell 3 0 0 2 rfl rfl rfl rfl (fill_len (by simp : ((List.replicate f.blocks.length (List.replicate f.regs.toNat true))).length = f.blocks.length) hk) (by decide)) ?_
  rw [fill_end (by simp : ((List.replicate f.blocks.length (List.replicate f.regs.toNat true))).length = f.blocks.length) hge]
  refine AGo.region ?_
  refine al 42 tok ?_
  refine AOps.w rfl rfl (o_store tok rfl rfl rfl rfl rfl rfl rfl rfl rfl (by decide) rfl (by first | exact fun _ => rfl | (intro h; cases h))) ?_
  refine AOps.nil ?_
  refine AGo.ret ?_
  refine ⟨[_], ⟨⟨_, _, _, _, rfl, rfl, .ptr _ _ _ _ _ _ _ _ rfl rfl rfl, rfl⟩, trivial⟩, ?_, rfl⟩
  rfl

end Go.Proofs.Ytpijoieooikfgaa.Sv

namespace Go.Proofs.Ytpijoieooikfgaa.Sv
open Go

def readsN (op : Int) : Int := bif use1 op then 1 else bif use2 op then 2 else 0
def Tac.rest2 (t : Tac) (f words : Int) : Bool :=
  !((t.op != 1 && t.n != 0) || (t.op != 3 && t.k != 0)) && (!(!arrOp t.op && t.size != 0) &&
  (bif t.op == 1 || (t.op == 2 || (t.op == 8 || t.op == 9)) then t.base == 0
   else bif t.op == 3 then t.base == 0 && (decide (t.k ≥ 4) && decide (t.k ≤ 15))
   else bif t.op == 4 || t.op == 5 then decide (t.base ≥ 0) && decide (t.base < words)
   else bif t.op == 6 || t.op == 7 then decide (t.size ≥ 1) && (decide (t.size ≤ 4096) && (decide (t.base ≥ 0) && decide (t.base ≤ words - t.size)))
   else bif t.op == 10 then decide (t.base ≥ 0) && decide (t.base < f) else false))
def Tac.ins2 (t : Tac) (f regs words : Int) : Bool :=
  (bif setsOp t.op then within t.d regs else t.d == 0) &&
  ((bif use1 t.op then within t.a regs && t.b == 0 else bif use2 t.op then within t.a regs && within t.b regs else t.a == 0 && t.b == 0) &&
   t.rest2 f words)
theorem op_cases {op : Int} (h1 : 1 ≤ op) (h2 : op ≤ 10) : op = 1 ∨ op = 2 ∨ op = 3 ∨ op = 4 ∨ op = 5 ∨ op = 6 ∨ op = 7 ∨ op = 8 ∨ op = 9 ∨ op = 10 := by omega
theorem ins2_fits (t : Tac) (f regs words : Int) : t.ins2 f regs words = t.fits f regs words := by
  by_cases h : 1 ≤ t.op ∧ t.op ≤ 10
  · obtain ⟨op, d, a, b, k, base, size, n⟩ := t
    rw [Bool.eq_iff_iff]
    rcases op_cases h.1 h.2 with e | e | e | e | e | e | e | e | e | e <;> (simp only at e; subst e; simp [Tac.ins2, Tac.fits, Tac.rest2, Tac.rest, Tac.same, Tac.want, Tac.uses, setsOp, use1, use2, baseOp, arrOp, within]) <;> (try omega) <;> (constructor <;> (intro h; simp [h]; try omega))
  · rw [fits_op h]
    have h1 : (t.op == 1) = false := (by rw [beq_eq_false_iff_ne]; omega)
    have h2 : (t.op == 2) = false := (by rw [beq_eq_false_iff_ne]; omega)
    have h3 : (t.op == 3) = false := (by rw [beq_eq_false_iff_ne]; omega)
    have h4 : (t.op == 4) = false := (by rw [beq_eq_false_iff_ne]; omega)
    have h5 : (t.op == 5) = false := (by rw [beq_eq_false_iff_ne]; omega)
    have h6 : (t.op == 6) = false := (by rw [beq_eq_false_iff_ne]; omega)
    have h7 : (t.op == 7) = false := (by rw [beq_eq_false_iff_ne]; omega)
    have h8 : (t.op == 8) = false := (by rw [beq_eq_false_iff_ne]; omega)
    have h9 : (t.op == 9) = false := (by rw [beq_eq_false_iff_ne]; omega)
    have h10 : (t.op == 10) = false := (by rw [beq_eq_false_iff_ne]; omega)
    simp [Tac.ins2, Tac.rest2, h1, h2, h3, h4, h5, h6, h7, h8, h9, h10]
theorem reads1 {op : Int} (h : readsN op = 1) : use1 op = true := by
  unfold readsN at h
  cases e : use1 op <;> cases e2 : use2 op <;> simp_all
theorem reads2 {op : Int} (h : readsN op = 2) : use1 op = false ∧ use2 op = true := by
  unfold readsN at h
  cases e : use1 op <;> cases e2 : use2 op <;> simp_all
theorem reads0 {op : Int} (h : readsN op = 0) : use1 op = false ∧ use2 op = false := by
  unfold readsN at h
  cases e : use1 op <;> cases e2 : use2 op <;> simp_all
theorem readsN_or (op : Int) : readsN op = 0 ∨ readsN op = 1 ∨ readsN op = 2 := by
  unfold readsN
  cases e : use1 op <;> cases e2 : use2 op <;> simp_all
end Go.Proofs.Ytpijoieooikfgaa.Sv

namespace Go.Proofs.Ytpijoieooikfgaa.Sv
open Go

set_option maxRecDepth 100000 in
theorem bsetsOp_ok (op : Int) : APure Try.prog 64 [.int .i64 op] (fun r => r = .bool (setsOp op)) := by
 refine APure.of_body (n := 11) tok Try.func64 rfl rfl ?_
 refine AGo.seq ?_
 refine AGo.region ?_
 refine aa 2 ?_
 refine AOps.nil ?_
 refine AGo.seq ?_
 refine AGo.seq ?_
 refine AGo.region ?_
 refine am 3 ?_
 refine AOps.nil ?_
 refine AGo.block ?_
 refine AGo.seq ?_
 refine AGo.seq ?_
 refine AGo.region ?_
 refine aq 5 (q_bin rfl rfl rfl rfl) ?_
 refine aa 4 ?_
 refine AOps.nil ?_
 refine AGo.split 4 rfl (fun hb1 => ?_) (fun hb1 => ?_)
 ·
  refine AGo.cond_true true rfl rfl ?_
  refine AGo.skip ?_
  refine AGo.cond_true true rfl rfl ?_
  refine AGo.seq ?_
  refine AGo.region ?_
  refine aa 2 ?_
  refine AOps.nil ?_
  refine AGo.ret ?_
  refine ⟨[_], ⟨rfl, trivial⟩, ?_, rfl⟩
  show AV.bool _ = AV.bool _
  congr 1
  simp [setsOp, *]
 ·
  refine AGo.cond_false false rfl rfl ?_
  refine AGo.seq ?_
  refine AGo.region ?_
  refine aq 6 (q_bin rfl rfl rfl rfl) ?_
  refine aa 4 ?_
  refine AOps.nil ?_
  refine AGo.split 4 rfl (fun hb2 => ?_) (fun hb2 => ?_)
  ·
   refine AGo.cond_true true rfl rfl ?_
   refine AGo.skip ?_
   refine AGo.cond_true true rfl rfl ?_
   refine AGo.seq ?_
   refine AGo.region ?_
   refine aa 2 ?_
   refine AOps.nil ?_
   refine AGo.ret ?_
   refine ⟨[_], ⟨rfl, trivial⟩, ?_, rfl⟩
   show AV.bool _ = AV.bool _
   congr 1
   simp [setsOp, *]
  ·
   refine AGo.cond_false false rfl rfl ?_
   refine AGo.seq ?_
   refine AGo.region ?_
   refine aq 7 (q_bin rfl rfl rfl rfl) ?_
   refine aa 4 ?_
   refine AOps.nil ?_
   refine AGo.split 4 rfl (fun hb3 => ?_) (fun hb3 => ?_)
   ·
    refine AGo.cond_true true rfl rfl ?_
    refine AGo.skip ?_
    refine AGo.cond_true true rfl rfl ?_
    refine AGo.seq ?_
    refine AGo.region ?_
    refine aa 2 ?_
    refine AOps.nil ?_
    refine AGo.ret ?_
    refine ⟨[_], ⟨rfl, trivial⟩, ?_, rfl⟩
    show AV.bool _ = AV.bool _
    congr 1
    simp [setsOp, *]
   ·
    refine AGo.cond_false false rfl rfl ?_
    refine AGo.seq ?_
    refine AGo.region ?_
    refine aq 8 (q_bin rfl rfl rfl rfl) ?_
    refine aa 4 ?_
    refine AOps.nil ?_
    refine AGo.split 4 rfl (fun hb4 => ?_) (fun hb4 => ?_)
    ·
     refine AGo.cond_true true rfl rfl ?_
     refine AGo.skip ?_
     refine AGo.cond_true true rfl rfl ?_
     refine AGo.seq ?_
     refine AGo.region ?_
     refine aa 2 ?_
     refine AOps.nil ?_
     refine AGo.ret ?_
     refine ⟨[_], ⟨rfl, trivial⟩, ?_, rfl⟩
     show AV.bool _ = AV.bool _
     congr 1
     simp [setsOp, *]
    ·
     refine AGo.cond_false false rfl rfl ?_
     refine AGo.seq ?_
     refine AGo.region ?_
     refine aq 9 (q_bin rfl rfl rfl rfl) ?_
     refine aa 4 ?_
     refine AOps.nil ?_
     refine AGo.split 4 rfl (fun hb5 => ?_) (fun hb5 => ?_)
     ·
      refine AGo.cond_true true rfl rfl ?_
      refine AGo.skip ?_
      refine AGo.cond_true true rfl rfl ?_
      refine AGo.seq ?_
      refine AGo.region ?_
      refine aa 2 ?_
      refine AOps.nil ?_
      refine AGo.ret ?_
      refine ⟨[_], ⟨rfl, trivial⟩, ?_, rfl⟩
      show AV.bool _ = AV.bool _
      congr 1
      simp [setsOp, *]
     ·
      refine AGo.cond_false false rfl rfl ?_
      refine AGo.region ?_
      refine aq 10 (q_bin rfl rfl rfl rfl) ?_
      refine aa 4 ?_
      refine AOps.nil ?_
      refine AGo.split 4 rfl (fun hb6 => ?_) (fun hb6 => ?_)
      ·
       refine AGo.cond_true true rfl rfl ?_
       refine AGo.seq ?_
       refine AGo.region ?_
       refine aa 2 ?_
       refine AOps.nil ?_
       refine AGo.ret ?_
       refine ⟨[_], ⟨rfl, trivial⟩, ?_, rfl⟩
       show AV.bool _ = AV.bool _
       congr 1
       simp [setsOp, *]
      ·
       refine AGo.cond_false false rfl rfl ?_
       refine AGo.skip ?_
       refine AGo.seq ?_
       refine AGo.region ?_
       refine aa 2 ?_
       refine AOps.nil ?_
       refine AGo.ret ?_
       refine ⟨[_], ⟨rfl, trivial⟩, ?_, rfl⟩
       show AV.bool _ = AV.bool _
       congr 1
       simp [setsOp, *]

set_option maxRecDepth 100000 in
theorem breads_ok (op : Int) : APure Try.prog 65 [.int .i64 op] (fun r => r = .int .i64 (readsN op)) := by
 refine APure.of_body (n := 12) tok Try.func65 rfl rfl ?_
 refine AGo.seq ?_
 refine AGo.region ?_
 refine aa 2 ?_
 refine AOps.nil ?_
 refine AGo.seq ?_
 refine AGo.seq ?_
 refine AGo.region ?_
 refine am 3 ?_
 refine AOps.nil ?_
 refine AGo.block ?_
 refine AGo.seq ?_
 refine AGo.seq ?_
 refine AGo.region ?_
 refine aq 5 (q_bin rfl rfl rfl rfl) ?_
 refine aa 4 ?_
 refine AOps.nil ?_
 refine AGo.split 4 rfl (fun hb1 => ?_) (fun hb1 => ?_)
 ·
  refine AGo.cond_true true rfl rfl ?_
  refine AGo.skip ?_
  refine AGo.cond_true true rfl rfl ?_
  refine AGo.seq ?_
  refine AGo.region ?_
  refine aa 2 ?_
  refine AOps.nil ?_
  refine AGo.ret ?_
  refine ⟨[_], ⟨rfl, trivial⟩, ?_, rfl⟩
  show AV.int .i64 _ = AV.int .i64 _
  congr 1
  simp [readsN, use1, use2, *]
 ·
  refine AGo.cond_false false rfl rfl ?_
  refine AGo.seq ?_
  refine AGo.region ?_
  refine aq 6 (q_bin rfl rfl rfl rfl) ?_
  refine aa 4 ?_
  refine AOps.nil ?_
  refine AGo.split 4 rfl (fun hb2 => ?_) (fun hb2 => ?_)
  ·
   refine AGo.cond_true true rfl rfl ?_
   refine AGo.skip ?_
   refine AGo.cond_true true rfl rfl ?_
   refine AGo.seq ?_
   refine AGo.region ?_
   refine aa 2 ?_
   refine AOps.nil ?_
   refine AGo.ret ?_
   refine ⟨[_], ⟨rfl, trivial⟩, ?_, rfl⟩
   show AV.int .i64 _ = AV.int .i64 _
   congr 1
   simp [readsN, use1, use2, *]
  ·
   refine AGo.cond_false false rfl rfl ?_
   refine AGo.seq ?_
   refine AGo.region ?_
   refine aq 7 (q_bin rfl rfl rfl rfl) ?_
   refine aa 4 ?_
   refine AOps.nil ?_
   refine AGo.split 4 rfl (fun hb3 => ?_) (fun hb3 => ?_)
   ·
    refine AGo.cond_true true rfl rfl ?_
    refine AGo.skip ?_
    refine AGo.cond_true true rfl rfl ?_
    refine AGo.seq ?_
    refine AGo.region ?_
    refine aa 2 ?_
    refine AOps.nil ?_
    refine AGo.ret ?_
    refine ⟨[_], ⟨rfl, trivial⟩, ?_, rfl⟩
    show AV.int .i64 _ = AV.int .i64 _
    congr 1
    simp [readsN, use1, use2, *]
   ·
    refine AGo.cond_false false rfl rfl ?_
    refine AGo.region ?_
    refine aq 8 (q_bin rfl rfl rfl rfl) ?_
    refine aa 4 ?_
    refine AOps.nil ?_
    refine AGo.split 4 rfl (fun hb4 => ?_) (fun hb4 => ?_)
    ·
     refine AGo.cond_true true rfl rfl ?_
     refine AGo.seq ?_
     refine AGo.region ?_
     refine aa 2 ?_
     refine AOps.nil ?_
     refine AGo.ret ?_
     refine ⟨[_], ⟨rfl, trivial⟩, ?_, rfl⟩
     show AV.int .i64 _ = AV.int .i64 _
     congr 1
     simp [readsN, use1, use2, *]
    ·
     refine AGo.cond_false false rfl rfl ?_
     refine AGo.seq ?_
     refine AGo.seq ?_
     refine AGo.region ?_
     refine aq 10 (q_bin rfl rfl rfl rfl) ?_
     refine aa 9 ?_
     refine AOps.nil ?_
     refine AGo.split 9 rfl (fun hb5 => ?_) (fun hb5 => ?_)
     ·
      refine AGo.cond_true true rfl rfl ?_
      refine AGo.skip ?_
      refine AGo.cond_true true rfl rfl ?_
      refine AGo.seq ?_
      refine AGo.region ?_
      refine aa 2 ?_
      refine AOps.nil ?_
      refine AGo.ret ?_
      refine ⟨[_], ⟨rfl, trivial⟩, ?_, rfl⟩
      show AV.int .i64 _ = AV.int .i64 _
      congr 1
      simp [readsN, use1, use2, *]
     ·
      refine AGo.cond_false false rfl rfl ?_
      refine AGo.region ?_
      refine aq 11 (q_bin rfl rfl rfl rfl) ?_
      refine aa 9 ?_
      refine AOps.nil ?_
      refine AGo.split 9 rfl (fun hb6 => ?_) (fun hb6 => ?_)
      ·
       refine AGo.cond_true true rfl rfl ?_
       refine AGo.seq ?_
       refine AGo.region ?_
       refine aa 2 ?_
       refine AOps.nil ?_
       refine AGo.ret ?_
       refine ⟨[_], ⟨rfl, trivial⟩, ?_, rfl⟩
       show AV.int .i64 _ = AV.int .i64 _
       congr 1
       simp [readsN, use1, use2, *]
      ·
       refine AGo.cond_false false rfl rfl ?_
       refine AGo.skip ?_
       refine AGo.seq ?_
       refine AGo.region ?_
       refine aa 2 ?_
       refine AOps.nil ?_
       refine AGo.ret ?_
       refine ⟨[_], ⟨rfl, trivial⟩, ?_, rfl⟩
       show AV.int .i64 _ = AV.int .i64 _
       congr 1
       simp [readsN, use1, use2, *]

set_option maxRecDepth 100000 in
theorem breg_ok (words f regs blocks r : Int) : APure Try.prog 63 [(.agg [.int .i64 words, .int .i64 f, .int .i64 regs, .int .i64 blocks]), .int .i64 r] (fun q => q = .bool (within r regs)) := by
 refine APure.of_body (n := 13) tok Try.func63 rfl rfl ?_
 refine AGo.seq ?_
 refine AGo.region ?_
 refine ax 2 (o_box (sz := 4) 0 rfl rfl rfl rfl (Nat.zero_lt_succ _) rfl) ?_
 refine aa 4 ?_
 refine AOps.nil ?_
 refine AGo.seq ?_
 refine AGo.region ?_
 refine am 5 ?_
 refine aq 6 (q_bin rfl rfl rfl rfl) ?_
 refine am 7 ?_
 refine AOps.split 7 rfl (fun hb1 => ?_) (fun hb1 => ?_)
 ·
  refine am 8 ?_
  refine af 9 tok ?_
  refine al 10 tok ?_
  refine aq 11 (q_bin rfl rfl rfl rfl) ?_
  refine aq 12 (q_pick_true true rfl rfl rfl rfl) ?_
  refine aa 4 ?_
  refine AOps.nil ?_
  refine AGo.ret ?_
  refine ⟨[_], ⟨rfl, trivial⟩, ?_, rfl⟩
  show AV.bool _ = AV.bool _
  congr 1
  first | (simp_all [within]; done) | (simp_all [within]; omega)
 ·
  refine ak 8 ?_
  refine ak 9 ?_
  refine ak 10 ?_
  refine ak 11 ?_
  refine aq 12 (q_pick_false false rfl rfl rfl rfl) ?_
  refine aa 4 ?_
  refine AOps.nil ?_
  refine AGo.ret ?_
  refine ⟨[_], ⟨rfl, trivial⟩, ?_, rfl⟩
  show AV.bool _ = AV.bool _
  congr 1
  first | (simp_all [within]; done) | (simp_all [within]; omega)

set_option maxRecDepth 100000 in
theorem bend_ok (words f regs blocks : Int) (x : Block) : APure Try.prog 54 [(.agg [.int .i64 words, .int .i64 f, .int .i64 regs, .int .i64 blocks]), .agg x.cells] (fun q => q = .bool (x.ends blocks regs)) := by
 refine APure.of_body (n := 67) tok Try.func54 rfl rfl ?_
 refine AGo.seq ?_
 refine AGo.region ?_
 refine ax 2 (o_box (sz := 4) 0 rfl rfl rfl rfl (Nat.zero_lt_succ _) rfl) ?_
 refine ax 3 (o_box (sz := 5) 1 rfl rfl rfl rfl (Nat.zero_lt_succ _) rfl) ?_
 refine aa 4 ?_
 refine AOps.nil ?_
 refine AGo.seq ?_
 refine AGo.join (γ := Unit) (fun _u => ⟨67, (eput (eput (eput eNew 2 (.ptr 0 1 0 0)) 3 (.ptr 1 1 0 0)) 5 (.bool (within x.to blocks))), (hput (hput (hFrom 2) 0 (.row false 4 [[.int .i64 words, .int .i64 f, .int .i64 regs, .int .i64 blocks]])) 1 (.row false 5 [x.cells]))⟩) (fun _u => True) ?_ ?_
 ·
  refine AGo.region ?_
  refine af 6 tok ?_
  refine al 7 tok ?_
  refine aq 8 (q_bin rfl rfl rfl rfl) ?_
  refine am 9 ?_
  refine AOps.split 9 rfl (fun hb1 => ?_) (fun hb1 => ?_)
  ·
   refine af 10 tok ?_
   refine al 11 tok ?_
   refine af 12 tok ?_
   refine al 13 tok ?_
   refine aq 14 (q_bin rfl rfl rfl rfl) ?_
   refine aq 15 (q_pick_true true rfl rfl rfl rfl) ?_
   refine aa 5 ?_
   refine AOps.nil ?_
   exact ⟨(), Sub.mk' (by repeat (first | exact ESub.new _ | refine ESub.put ?_ (by first | rfl | exact congrArg (fun c => some (AV.bool c)) (by first | (simp_all [within]; done) | (simp_all [within]; omega))))) (by repeat (first | exact HSub.refl _ | exact HSub.none _ | exact HSub.from_new _ | exact HSub.from_from (by first | decide | omega | (dsimp only; omega)) | refine HSub.put ?_ (by rfl) | refine HSub.from_put ?_ (by first | decide | omega | (dsimp only; omega)) | refine HSub.from_rm ?_ (by decide))), trivial⟩
  ·
   refine ak 10 ?_
   refine ak 11 ?_
   refine ak 12 ?_
   refine ak 13 ?_
   refine ak 14 ?_
   refine aq 15 (q_pick_false false rfl rfl rfl rfl) ?_
   refine aa 5 ?_
   refine AOps.nil ?_
   exact ⟨(), Sub.mk' (by repeat (first | exact ESub.new _ | refine ESub.put ?_ (by first | rfl | exact congrArg (fun c => some (AV.bool c)) (by first | (simp_all [within]; done) | (simp_all [within]; omega))))) (by repeat (first | exact HSub.refl _ | exact HSub.none _ | exact HSub.from_new _ | exact HSub.from_from (by first | decide | omega | (dsimp only; omega)) | refine HSub.put ?_ (by rfl) | refine HSub.from_put ?_ (by first | decide | omega | (dsimp only; omega)) | refine HSub.from_rm ?_ (by decide))), trivial⟩
 intro _u _
 refine AGo.seq ?_
 refine AGo.seq ?_
 refine AGo.region ?_
 refine af 16 tok ?_
 refine al 17 tok ?_
 refine AOps.nil ?_
 refine AGo.block ?_
 refine AGo.seq ?_
 refine AGo.region ?_
 refine aq 19 (q_bin rfl rfl rfl rfl) ?_
 refine aa 18 ?_
 refine AOps.nil ?_
 refine AGo.split 18 rfl (fun hb2 => ?_) (fun hb2 => ?_)
 ·
  refine AGo.cond_true true rfl rfl ?_
  refine AGo.seq ?_
  refine AGo.region ?_
  refine am 20 ?_
  refine am 21 ?_
  refine AOps.split 21 rfl (fun hb3 => ?_) (fun hb3 => ?_)
  ·
   refine af 22 tok ?_
   refine al 23 tok ?_
   refine aq 24 (q_bin rfl rfl rfl rfl) ?_
   refine aq 25 (q_pick_true true rfl rfl rfl rfl) ?_
   refine am 26 ?_
   refine AOps.split 26 rfl (fun hb4 => ?_) (fun hb4 => ?_)
   ·
    refine af 27 tok ?_
    refine al 28 tok ?_
    refine aq 29 (q_bin rfl rfl rfl rfl) ?_
    refine aq 30 (q_pick_true true rfl rfl rfl rfl) ?_
    refine aa 4 ?_
    refine AOps.nil ?_
    refine AGo.ret ?_
    refine ⟨[_], ⟨rfl, trivial⟩, ?_, rfl⟩
    show AV.bool _ = AV.bool _
    congr 1
    first | (simp_all [Block.ends, within]; done) | (simp_all [Block.ends, within]; omega)
   ·
    refine ak 27 ?_
    refine ak 28 ?_
    refine ak 29 ?_
    refine aq 30 (q_pick_false false rfl rfl rfl rfl) ?_
    refine aa 4 ?_
    refine AOps.nil ?_
    refine AGo.ret ?_
    refine ⟨[_], ⟨rfl, trivial⟩, ?_, rfl⟩
    show AV.bool _ = AV.bool _
    congr 1
    first | (simp_all [Block.ends, within]; done) | (simp_all [Block.ends, within]; omega)
  ·
   refine ak 22 ?_
   refine ak 23 ?_
   refine ak 24 ?_
   refine aq 25 (q_pick_false false rfl rfl rfl rfl) ?_
   refine am 26 ?_
   refine ak 27 ?_
   refine ak 28 ?_
   refine ak 29 ?_
   refine aq 30 (q_pick_false false rfl rfl rfl rfl) ?_
   refine aa 4 ?_
   refine AOps.nil ?_
   refine AGo.ret ?_
   refine ⟨[_], ⟨rfl, trivial⟩, ?_, rfl⟩
   show AV.bool _ = AV.bool _
   congr 1
   first | (simp_all [Block.ends, within]; done) | (simp_all [Block.ends, within]; omega)
 ·
  refine AGo.cond_false false rfl rfl ?_
  refine AGo.seq ?_
  refine AGo.region ?_
  refine aq 32 (q_bin rfl rfl rfl rfl) ?_
  refine aa 31 ?_
  refine AOps.nil ?_
  refine AGo.split 31 rfl (fun hb5 => ?_) (fun hb5 => ?_)
  ·
   refine AGo.cond_true true rfl rfl ?_
   refine AGo.seq ?_
   refine AGo.region ?_
   refine am 33 ?_
   refine am 34 ?_
   refine AOps.split 34 rfl (fun hb6 => ?_) (fun hb6 => ?_)
   ·
    refine al 35 tok ?_
    refine af 36 tok ?_
    refine al 37 tok ?_
    refine ax 38 (o_pure rfl Try.func63 (by kernel_rfl) rfl rfl rfl (breg_ok _ _ _ _ _)) ?_
    refine aq 39 (q_pick_true true rfl rfl rfl rfl) ?_
    refine am 40 ?_
    refine AOps.split 40 rfl (fun hb7 => ?_) (fun hb7 => ?_)
    ·
     refine af 41 tok ?_
     refine al 42 tok ?_
     refine aq 43 (q_bin rfl rfl rfl rfl) ?_
     refine aq 44 (q_pick_true true rfl rfl rfl rfl) ?_
     refine am 45 ?_
     refine AOps.split 45 rfl (fun hb8 => ?_) (fun hb8 => ?_)
     ·
      refine af 46 tok ?_
      refine al 47 tok ?_
      refine af 48 tok ?_
      refine al 49 tok ?_
      refine aq 50 (q_bin rfl rfl rfl rfl) ?_
      refine aq 51 (q_pick_true true rfl rfl rfl rfl) ?_
      refine aa 4 ?_
      refine AOps.nil ?_
      refine AGo.ret ?_
      refine ⟨[_], ⟨rfl, trivial⟩, ?_, rfl⟩
      show AV.bool _ = AV.bool _
      congr 1
      first | (simp_all [Block.ends, within]; done) | (simp_all [Block.ends, within]; omega)
     ·
      refine ak 46 ?_
      refine ak 47 ?_
      refine ak 48 ?_
      refine ak 49 ?_
      refine ak 50 ?_
      refine aq 51 (q_pick_false false rfl rfl rfl rfl) ?_
      refine aa 4 ?_
      refine AOps.nil ?_
      refine AGo.ret ?_
      refine ⟨[_], ⟨rfl, trivial⟩, ?_, rfl⟩
      show AV.bool _ = AV.bool _
      congr 1
      first | (simp_all [Block.ends, within]; done) | (simp_all [Block.ends, within]; omega)
    ·
     refine ak 41 ?_
     refine ak 42 ?_
     refine ak 43 ?_
     refine aq 44 (q_pick_false false rfl rfl rfl rfl) ?_
     refine am 45 ?_
     refine ak 46 ?_
     refine ak 47 ?_
     refine ak 48 ?_
     refine ak 49 ?_
     refine ak 50 ?_
     refine aq 51 (q_pick_false false rfl rfl rfl rfl) ?_
     refine aa 4 ?_
     refine AOps.nil ?_
     refine AGo.ret ?_
     refine ⟨[_], ⟨rfl, trivial⟩, ?_, rfl⟩
     show AV.bool _ = AV.bool _
     congr 1
     first | (simp_all [Block.ends, within]; done) | (simp_all [Block.ends, within]; omega)
   ·
    refine ak 35 ?_
    refine ak 36 ?_
    refine ak 37 ?_
    refine ak 38 ?_
    refine aq 39 (q_pick_false false rfl rfl rfl rfl) ?_
    refine am 40 ?_
    refine ak 41 ?_
    refine ak 42 ?_
    refine ak 43 ?_
    refine aq 44 (q_pick_false false rfl rfl rfl rfl) ?_
    refine am 45 ?_
    refine ak 46 ?_
    refine ak 47 ?_
    refine ak 48 ?_
    refine ak 49 ?_
    refine ak 50 ?_
    refine aq 51 (q_pick_false false rfl rfl rfl rfl) ?_
    refine aa 4 ?_
    refine AOps.nil ?_
    refine AGo.ret ?_
    refine ⟨[_], ⟨rfl, trivial⟩, ?_, rfl⟩
    show AV.bool _ = AV.bool _
    congr 1
    first | (simp_all [Block.ends, within]; done) | (simp_all [Block.ends, within]; omega)
  ·
   refine AGo.cond_false false rfl rfl ?_
   refine AGo.seq ?_
   refine AGo.region ?_
   refine aq 53 (q_bin rfl rfl rfl rfl) ?_
   refine aa 52 ?_
   refine AOps.nil ?_
   refine AGo.split 52 rfl (fun hb9 => ?_) (fun hb9 => ?_)
   ·
    refine AGo.cond_true true rfl rfl ?_
    refine AGo.seq ?_
    refine AGo.region ?_
    refine af 54 tok ?_
    refine al 55 tok ?_
    refine aq 56 (q_bin rfl rfl rfl rfl) ?_
    refine am 57 ?_
    refine AOps.split 57 rfl (fun hb10 => ?_) (fun hb10 => ?_)
    ·
     refine af 58 tok ?_
     refine al 59 tok ?_
     refine aq 60 (q_bin rfl rfl rfl rfl) ?_
     refine aq 61 (q_pick_true true rfl rfl rfl rfl) ?_
     refine am 62 ?_
     refine AOps.split 62 rfl (fun hb11 => ?_) (fun hb11 => ?_)
     ·
      refine af 63 tok ?_
      refine al 64 tok ?_
      refine aq 65 (q_bin rfl rfl rfl rfl) ?_
      refine aq 66 (q_pick_true true rfl rfl rfl rfl) ?_
      refine aa 4 ?_
      refine AOps.nil ?_
      refine AGo.ret ?_
      refine ⟨[_], ⟨rfl, trivial⟩, ?_, rfl⟩
      show AV.bool _ = AV.bool _
      congr 1
      first | (simp_all [Block.ends, within]; done) | (simp_all [Block.ends, within]; omega)
     ·
      refine ak 63 ?_
      refine ak 64 ?_
      refine ak 65 ?_
      refine aq 66 (q_pick_false false rfl rfl rfl rfl) ?_
      refine aa 4 ?_
      refine AOps.nil ?_
      refine AGo.ret ?_
      refine ⟨[_], ⟨rfl, trivial⟩, ?_, rfl⟩
      show AV.bool _ = AV.bool _
      congr 1
      first | (simp_all [Block.ends, within]; done) | (simp_all [Block.ends, within]; omega)
    ·
     refine ak 58 ?_
     refine ak 59 ?_
     refine ak 60 ?_
     refine aq 61 (q_pick_false false rfl rfl rfl rfl) ?_
     refine am 62 ?_
     refine ak 63 ?_
     refine ak 64 ?_
     refine ak 65 ?_
     refine aq 66 (q_pick_false false rfl rfl rfl rfl) ?_
     refine aa 4 ?_
     refine AOps.nil ?_
     refine AGo.ret ?_
     refine ⟨[_], ⟨rfl, trivial⟩, ?_, rfl⟩
     show AV.bool _ = AV.bool _
     congr 1
     first | (simp_all [Block.ends, within]; done) | (simp_all [Block.ends, within]; omega)
   ·
    refine AGo.cond_false false rfl rfl ?_
    refine AGo.skip ?_
    refine AGo.seq ?_
    refine AGo.region ?_
    refine aa 4 ?_
    refine AOps.nil ?_
    refine AGo.ret ?_
    refine ⟨[_], ⟨rfl, trivial⟩, ?_, rfl⟩
    show AV.bool _ = AV.bool _
    congr 1
    first | (simp_all [Block.ends, within]; done) | (simp_all [Block.ends, within]; omega)

end Go.Proofs.Ytpijoieooikfgaa.Sv
