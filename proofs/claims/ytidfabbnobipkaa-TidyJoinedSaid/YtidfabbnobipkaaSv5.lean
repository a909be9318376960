/-
  THE JUDGEMENT ON ONE OPERATION, AND ITS RULES FOR THOSE THAT ONLY READ: own work, over no program.
-/
import Derived.Test.YtidfabbnobipkaaSv4
namespace Go.Proofs.Ytidfabbnobipkaa.Sv
open Go
set_option linter.unusedVariables false
set_option linter.unusedSimpArgs false

def hputs (h : AHeap) : List (Nat × AObj) → AHeap
  | [] => h
  | (b, o) :: W => hputs (hput h b o) W

/-- One operation: it comes to r, and puts W into the heap; of the heap it looks at R. -/
def OLoc (P : Program) (o : Oper) (e : AEnv) (h : AHeap) (R : List Nat) (W : List (Nat × AObj)) (r : Option AV) : Prop :=
  ∀ (H : Know) (ι : Lay) (a : Act) (w : World) (s : AState) (Q : Exit → Act → World → Prop), Sim H ι s a w →
    (∀ x ∈ o.op.operands, look s.env x = look e x) → (∀ b ∈ R, s.h b = h b) →
    o.wp P a w (fun a' w' => ∃ v H' ι', a' = a.put o.dst v ∧ (∀ x, r = some x → Rel H' ι' x v) ∧ HeapRel H' ι' (hputs s.h W) w' ∧ Step H ι s.h w H' ι' (hputs s.h W) w') Q

/-- One operation that leaves the world alone. -/
def QLoc (P : Program) (o : Oper) (e : AEnv) (h : AHeap) (R : List Nat) (r : AV) : Prop :=
  ∀ (H : Know) (ι : Lay) (a : Act) (w : World) (s : AState), Sim H ι s a w →
    (∀ x ∈ o.op.operands, look s.env x = look e x) → (∀ b ∈ R, s.h b = h b) →
    ∃ v, Rel H ι r v ∧ (execOp a.eval o).run P w = .ok (.value v) w

theorem QLoc.loc {P : Program} {o : Oper} {e : AEnv} {h : AHeap} {R : List Nat} {r : AV} (q : QLoc P o e h R r) : OLoc P o e h R [] (some r) := by
  intro H ι a w s Q hs h1 h2
  obtain ⟨v, hr, hx⟩ := q H ι a w s hs h1 h2
  unfold Oper.wp
  rw [hx]
  exact ⟨v, H, ι, rfl, fun x e => by cases e; exact hr, hs.heap, Step.refl _ _ _ _⟩

/-- What lies where a pointer points to. -/
inductive PtsTo (h : AHeap) : AV → List Nat → List AV → Prop
  | loc (cs : List AV) : PtsTo h (.loc cs) [] cs
  | ptr (b n i o : Nat) (p : Bool) (sz : Nat) (es : List (List AV)) (cs : List AV) (hb : h b = some (.row p sz es)) (hn : n = es.length) (hi : es[i]? = some cs) : PtsTo h (.ptr b n i o) [b] (cs.drop o)

def CellsAt (H : Know) (ι : Lay) (w : World) (a : Addr) (cs : List AV) : Prop := ∀ (j : Nat) (x : AV), cs[j]? = some x → ∃ v, w.cell? (a.add j) = some v ∧ Rel H ι x v ∧ x.cell1 = true

theorem add_mk (b off n : Nat) : (⟨b, off, none⟩ : Addr).add n = ⟨b, off + n, none⟩ := by
  unfold Addr.add; split <;> simp_all

theorem cell_row {w : World} {b j : Nat} {c : Array Value} {T : TypeId} {fr : Nat × Nat} (h : w.heap[b]? = some (.cells c T fr)) : w.cell? ⟨b, j, none⟩ = c[j]? := by
  simp [World.cell?, h]

theorem PtsTo.cells {H : Know} {ι : Lay} {h : AHeap} {w : World} (hr : HeapRel H ι h w) {x : AV} {R : List Nat} {cs : List AV} (hp : PtsTo h x R cs) {v : Value} (hv : Rel H ι x v) :
    ∃ b off, v = .pointer (some ⟨b, off, none⟩) ∧ CellsAt H ι w ⟨b, off, none⟩ cs := by
  cases hp with
  | loc cs =>
    cases hv with
    | loc _ _ b off c vals hb hv hr' hc1 =>
      obtain ⟨T, fr, hw⟩ := hr.know b c hb
      refine ⟨b, off, rfl, fun j x hj => ⟨vals j, ?_, (hr' j x hj).mono (KLe.refl _) (LLe.none _), hc1 j x hj⟩⟩
      rw [add_mk, cell_row hw]
      exact hv j x hj
  | ptr b n i o p sz es cs hb hn hi =>
    obtain ⟨r, hl, ho, _⟩ := hr.obj b _ hb rfl
    obtain ⟨h1, h2, h3, h4, hu, hx⟩ := ho
    have hsol : r.solid := by
      intro h0
      have : 0 < es.length := by
        rcases Nat.eq_zero_or_pos es.length with h | h
        · rw [List.getElem?_eq_none (by omega)] at hi; cases hi
        · exact h
      have := Nat.mul_pos this h2
      omega
    obtain ⟨c, T, h5, h6, h7, h8⟩ := hx hsol
    cases hv with
    | ptrL _ _ _ _ _ r' hr' hn' =>
      rw [hl] at hr'; cases hr'
      refine ⟨r.rb, i * r.sz + o, rfl, fun j x hj => ?_⟩
      rw [List.getElem?_drop] at hj
      obtain ⟨v, e1, e2, e3⟩ := h8 i cs (o + j) x hi hj
      refine ⟨v, ?_, ?_, e3⟩
      · rw [add_mk, cell_row h5, h1, Nat.add_assoc]
        exact e1
      · cases p with
        | true => exact e2.mono (KLe.refl _) (LLe.none _)
        | false => exact e2
    | ptrS _ _ _ _ _ r' a hr' hn' =>
      rw [hl] at hr'; cases hr'
      omega

def TK.isAgg : TK → Bool
  | .struct _ | .array _ _ => true
  | _ => false
def TK.isCell : TK → Bool
  | .bool | .int _ | .string | .slice _ | .ptr _ | .map _ _ => true
  | _ => false

theorem tk_agg {P : Program} {d : TypeDesc} (h : (tkOf P d).isAgg = true) : (∃ fs, d = .struct fs) ∨ ∃ n e, d = .array n e := by
  cases d <;> simp [tkOf, TK.isAgg] at h ⊢
theorem tk_cell {P : Program} {d : TypeDesc} (h : (tkOf P d).isCell = true) : (∀ fs, d ≠ .struct fs) ∧ ∀ n e, d ≠ .array n e := by
  cases d <;> simp [tkOf, TK.isCell] at h ⊢
  rename_i fs
  revert h
  cases (fs.all fun f => P.cellsOf f.type != 0) <;> simp [TK.isCell]
  all_goals (first | (intro h; cases h) | skip)

/-- What is loaded. -/
def loadAV (i : TyI) (cs : List AV) : Option AV :=
  bif i.k.isAgg then (bif Nat.ble i.size cs.length then some (.agg (cs.take i.size)) else none)
  else bif i.k.isCell then cs.head? else none

def isAggD : TypeDesc → Bool
  | .struct _ | .array _ _ => true
  | _ => false
theorem run_isAgg {P : Program} {w : World} {t : TypeId} {d : TypeDesc} (h : P.underlying t = some d) : (isAgg t).run P w = .ok (isAggD d) w := by
  simp only [isAgg, underlying, Sem.run_bind, run_program, Result.andThen_ok, h, Sem.run_pure]
  cases d <;> rfl

theorem run_loadVar {P : Program} {w : World} {H : Know} {ι : Lay} {t : TypeId} {i : TyI} {a : Addr} {cs : List AV} {r : AV} (hT : tyOf P t = some i) (hc : CellsAt H ι w a cs) (hl : loadAV i cs = some r) :
    ∃ v, Rel H ι r v ∧ (loadVar t a).run P w = .ok v w := by
  obtain ⟨info, d, h1, h2, h3, h4, h5, h6⟩ := tyOf_spec hT
  unfold loadAV at hl
  cases e : i.k.isAgg with
  | true =>
    rw [e] at hl
    simp only [cond_true] at hl
    cases e2 : Nat.ble i.size cs.length with
    | false => rw [e2] at hl; cases hl
    | true =>
      rw [e2] at hl
      simp only [cond_true, Option.some.injEq] at hl
      subst hl
      have hle := Nat.le_of_ble_eq_true e2
      have hagg : isAggD d = true := by
        rcases tk_agg (P := P) (d := d) (by rw [← h3]; exact e) with ⟨fs, rfl⟩ | ⟨n, e, rfl⟩ <;> rfl
      have hf : ∀ j, j < i.size → ∃ v, w.cell? (a.add j) = some v ∧ ∀ x, cs[j]? = some x → Rel H ι x v := fun j hj => by
        obtain ⟨v, e1, e2, _⟩ := hc j cs[j] (by rw [List.getElem?_eq_getElem (Nat.lt_of_lt_of_le hj hle)])
        exact ⟨v, e1, fun x hx => by rw [List.getElem?_eq_getElem (Nat.lt_of_lt_of_le hj hle)] at hx; cases hx; exact e2⟩
      have hrun := run_loadCells (P := P) w a i.size (fun j => (w.cell? (a.add j)).getD undef) (fun j hj => by
        obtain ⟨v, e1, _⟩ := hf j hj; rw [e1]; rfl)
      refine ⟨.agg ((List.range i.size).map fun j => (w.cell? (a.add j)).getD undef).toArray, ?_, ?_⟩
      rotate_left
      · simp only [loadVar, Sem.run_bind, run_isAgg h2, Result.andThen_ok, hagg, if_true, sizeOf, typeInfo, run_program, h1, Sem.run_pure, h4, hrun]
      · refine .agg _ _ _ (by simp; exact Nat.min_eq_left hle) (fun j x v e1 e2 => ?_)
        have hj : j < i.size := by
          rcases Nat.lt_or_ge j i.size with h | h
          · exact h
          · rw [List.getElem?_eq_none (by simp; omega)] at e1; cases e1
        rw [List.getElem?_take_of_lt hj] at e1
        obtain ⟨u, e3, e4⟩ := hf j hj
        have : v = u := by
          simp [hj] at e2
          rw [e3] at e2
          simpa using e2.symm
        rw [this]; exact e4 x e1
  | false =>
    rw [e] at hl
    simp only [cond_false] at hl
    cases e2 : i.k.isCell with
    | false => rw [e2] at hl; cases hl
    | true =>
      rw [e2] at hl
      simp only [cond_true] at hl
      have hx : cs[0]? = some r := by rw [← List.head?_eq_getElem?]; exact hl
      obtain ⟨v, e3, e4, _⟩ := hc 0 r hx
      have hagg : isAggD d = false := by
        have := tk_cell (P := P) (d := d) (by rw [← h3]; exact e2)
        cases d <;> first | rfl | exact absurd rfl (this.1 _) | exact absurd rfl (this.2 _ _)
      refine ⟨v, e4, ?_⟩
      have ha : a.add 0 = a := by simp [Addr.add]
      rw [ha] at e3
      simp only [loadVar, Sem.run_bind, run_isAgg h2, Result.andThen_ok, hagg, Bool.false_eq_true, if_false, run_load, e3]

section
variable {P : Program} {T : Nat → Option TyI} {o : Oper} {e : AEnv} {h : AHeap}

theorem q_load (hT : TOk P T) {t : TypeId} {x : Operand} {p r : AV} {i : TyI} {R : List Nat} {cs : List AV} (ho : o.op = .load t x) (hx : look e x = some p) (hi : T t = some i) (hp : PtsTo h p R cs) (hl : loadAV i cs = some r) : QLoc P o e h R r := by
  intro H ι a w s hs h1 h2
  have hx' : look s.env x = some p := by rw [h1 x (by rw [ho]; simp [Op.operands]), hx]
  have hp' : PtsTo s.h p R cs := by
    cases hp with
    | loc => exact .loc _
    | ptr b n i o p sz es cs hb hn hi => exact .ptr b n i o p sz es cs (by rw [h2 b (by simp)]; exact hb) hn hi
  obtain ⟨b, off, hv, hc⟩ := hp'.cells hs.heap (look_rel hs hx')
  obtain ⟨v, hr, hrun⟩ := run_loadVar (P := P) (hT _ _ hi) hc hl
  refine ⟨v, hr, ?_⟩
  simp only [execOp, ho, Instr.loadAt, hv, Instr.sureAddr, Sem.run_bind, Sem.run_pure, Result.andThen_ok, hrun]

theorem q_move {x : Operand} {p : AV} (ho : o.op = .move x ∨ o.op = .assign x) (hx : look e x = some p) : QLoc P o e h [] p := by
  intro H ι a w s hs h1 h2
  have hx' : look s.env x = some p := by rw [h1 x (by rcases ho with ho | ho <;> rw [ho] <;> simp [Op.operands]), hx]
  refine ⟨a.eval x, look_rel hs hx', ?_⟩
  rcases ho with ho | ho <;> simp [execOp, ho]

theorem q_bin {op : BinOp} {t t' : TypeId} {x y : Operand} {p q r : AV} (ho : o.op = .binOp op t x y t') (hx : look e x = some p) (hy : look e y = some q) (hr : evalBin op p q = some r) : QLoc P o e h [] r := by
  intro H ι a w s hs h1 h2
  have hx' : look s.env x = some p := by rw [h1 x (by rw [ho]; simp [Op.operands]), hx]
  have hy' : look s.env y = some q := by rw [h1 y (by rw [ho]; simp [Op.operands]), hy]
  obtain ⟨z, hz, hrun⟩ := run_evalBin (P := P) (w := w) (op := op) (T := t) (xo := x) (yo := y) (look_rel hs hx') (look_rel hs hy') hr
  exact ⟨z, hz, by simp only [execOp, ho, Sem.run_bind] at hrun ⊢; rw [hrun]; rfl⟩

end
end Go.Proofs.Ytidfabbnobipkaa.Sv
