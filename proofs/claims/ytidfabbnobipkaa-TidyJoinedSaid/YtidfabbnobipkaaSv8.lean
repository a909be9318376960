/-
  OPERATIONS THAT MAKE MEMORY, OR WRITE IT: own work, over no program.
-/
import Derived.Test.YtidfabbnobipkaaSv7
import Derived.Deep.AppendSrc
namespace Go.Proofs.Ytidfabbnobipkaa.Sv
open Go
set_option linter.unusedVariables false
set_option linter.unusedSimpArgs false

def AV.cells : AV → List AV
  | .agg cs => cs
  | x => [x]

def AV.isPure1 : AV → Bool
  | .bool _ | .int .. | .str _ | .nil | .nilp | .lst .. | .loc _ => true
  | _ => false
def AV.isPure : AV → Bool
  | .agg cs => cs.all AV.isPure1
  | .tup cs => cs.all fun x => match x with
    | .agg cs => cs.all AV.isPure1
    | x => x.isPure1
  | x => x.isPure1

theorem pure1_rel {H : Know} {ι ι' : Lay} {x : AV} {v : Value} (hp : x.isPure1 = true) (h : Rel H ι x v) : Rel H ι' x v := by
  cases h <;> simp [AV.isPure1] at hp
  · exact .bool _ _
  · exact .int _ _ _
  · exact .str _ _
  · exact .nil _
  · exact .nilp _
  · exact .lst0 _ _ _ _ (by assumption) (by assumption) (by assumption) (by assumption)
  · exact .lst _ _ _ _ _ _ _ _ _ (by assumption) (by assumption) (by assumption) (by assumption) (by assumption) (by assumption) (by assumption) (by assumption) (by assumption)
  · exact .loc _ _ _ _ _ _ (by assumption) (by assumption) (by assumption) (by assumption)

theorem aggpure_rel {H : Know} {ι ι' : Lay} {cs : List AV} {v : Value} (hp : cs.all AV.isPure1 = true) (h : Rel H ι (.agg cs) v) : Rel H ι' (.agg cs) v := by
  obtain ⟨us, rfl, hl, hr⟩ := h.agg_inv
  exact .agg _ _ _ hl fun j x u h1 h2 => pure1_rel (List.all_eq_true.1 hp x (List.mem_of_getElem? h1)) (hr j x u h1 h2)

theorem pure_rel {H : Know} {ι ι' : Lay} {x : AV} {v : Value} (hp : x.isPure = true) (h : Rel H ι x v) : Rel H ι' x v := by
  cases x with
  | agg cs => exact aggpure_rel hp h
  | tup cs =>
    obtain ⟨us, rfl, hl, hr⟩ := h.tup_inv
    refine .tup _ _ _ hl fun j x u h1 h2 => ?_
    have := List.all_eq_true.1 hp x (List.mem_of_getElem? h1)
    have h3 := hr j x u h1 h2
    cases x with
    | agg cs => exact aggpure_rel this h3
    | _ => exact pure1_rel this h3
  | _ => exact pure1_rel hp h

theorem cells_rel {H : Know} {ι : Lay} {x : AV} {v : Value} (h : Rel H ι x v) : x.cells.length = v.cells.size ∧ ∀ (j : Nat) (y : AV) (u : Value), x.cells[j]? = some y → v.cells[j]? = some u → Rel H ι y u := by
  cases x with
  | agg cs => obtain ⟨us, rfl, hl, hr⟩ := h.agg_inv; exact ⟨hl, hr⟩
  | _ =>
    have hv : v.cells = #[v] := by cases h <;> rfl
    rw [hv]
    refine ⟨rfl, fun j y u h1 h2 => ?_⟩
    cases j with
    | zero => simp [AV.cells] at h1 h2; subst h1; subst h2; exact h
    | succ j => simp [AV.cells] at h1

theorem cell1_rel {H : Know} {ι : Lay} {x : AV} {v : Value} (h : Rel H ι x v) (h1 : x.cell1 = true) : v.oneCell' = true := by
  cases h <;> first | rfl | (simp [AV.cell1] at h1)

theorem getElem?_some_of_lt {α : Type} {c : Array α} {j : Nat} (h : j < c.size) : ∃ v, c[j]? = some v := ⟨c[j], by simp [h]⟩

/-- The cells of one value are a row of one element. -/
theorem rowCells_one {H : Know} {ι : Lay} {cs : List AV} {vs : Array Value} (hl : cs.length = vs.size) (hr : ∀ (j : Nat) (y : AV) (u : Value), cs[j]? = some y → vs[j]? = some u → Rel H ι y u) (h1 : cs.all AV.cell1 = true) :
    rowCells H ι cs.length [cs] vs := by
  refine ⟨fun i c e => ?_, fun i c j x e1 e2 => ?_⟩
  · cases i with
    | zero => simp at e; rw [e]
    | succ i => simp at e
  · cases i with
    | succ i => simp at e1
    | zero =>
      simp at e1; subst e1
      have hj : j < vs.size := by
        rw [← hl]
        rcases Nat.lt_or_ge j cs.length with h | h
        · exact h
        · rw [List.getElem?_eq_none h] at e2; cases e2
      obtain ⟨v, hv⟩ := getElem?_some_of_lt hj
      exact ⟨v, by simpa using hv, hr j x v e2 hv, List.all_eq_true.1 h1 x (List.mem_of_getElem? e2)⟩

theorem new_row {H : Know} {ι : Lay} {h : AHeap} {w w0 : World} (hr : HeapRel H ι h w) (h0 : w0.heap = w.heap) (ho : w0.os = w.os) (hu : w0.output = w.output) {b : Nat} (hb : h b = some .free) (p : Bool) {sz : Nat} {es : List (List AV)} {c : Array Value} (T : TypeId)
    (hsz : 0 < sz) (hlen : es.length * sz ≤ c.size) (hc : rowCells H (bif p then noLay else ι) sz es c) :
    HeapRel H (lput ι b ⟨w.heap.size, sz, es.length, c.size⟩) (hput h b (.row p sz es)) (w0.alloc (.cells c T)) ∧ Step H ι h w H (lput ι b ⟨w.heap.size, sz, es.length, c.size⟩) (hput h b (.row p sz es)) (w0.alloc (.cells c T)) := by
  refine hr.upd (o0 := .free) hb rfl (.inl rfl) (fun _ => .inl (Nat.le_refl _)) (fun rb hlt _ => ?_) (by simp [h0]) ho hu ⟨rfl, hsz, rfl, hlen, hc.1, fun _ => ⟨c, T, ?_, rfl, hc.mono (KLe.refl _) ?_⟩⟩
  · rw [heap_alloc_old w0 _ (by rw [h0]; exact hlt), h0]
  · show (w0.alloc (.cells c T)).heap[w.heap.size]? = _
    rw [← h0]; exact heap_alloc_new w0 _
  · cases p
    · exact LLe.put fun r e => by change ι b = some r at e; rw [hr.free b hb] at e; cases e
    · exact LLe.refl _

section
variable {P : Program} {T : Nat → Option TyI} {o : Oper} {e : AEnv} {h : AHeap}

/-- An operation that makes a row. -/
theorem OLoc.of_new {b : Nat} {p : Bool} {sz : Nat} {es : List (List AV)} {r : AV} {R : List Nat} (hb : h b = some .free) (hR : b ∈ R) (hsz : 0 < sz)
    (hrun : ∀ (H : Know) (ι : Lay) (a : Act) (w : World) (s : AState), Sim H ι s a w → (∀ x ∈ o.op.operands, look s.env x = look e x) → (∀ b ∈ R, s.h b = h b) →
      ∃ (v : Value) (c : Array Value) (TT : TypeId) (w0 : World), w0.heap = w.heap ∧ w0.os = w.os ∧ w0.output = w.output ∧ es.length * sz ≤ c.size ∧ rowCells H (bif p then noLay else ι) sz es c ∧ (execOp a.eval o).run P w = .ok (.value v) (w0.alloc (.cells c TT)) ∧
        Rel H (lput ι b ⟨w.heap.size, sz, es.length, c.size⟩) r v) : OLoc P o e h R [(b, .row p sz es)] (some r) := by
  intro H ι a w s Q hs h1 h2
  have hb' : s.h b = some .free := by rw [h2 b hR, hb]
  obtain ⟨v, c, TT, w0, e1, e2, e3, e4, e5, e6, e7⟩ := hrun H ι a w s hs h1 h2
  obtain ⟨g1, g2⟩ := new_row hs.heap e1 e2 e3 hb' p TT hsz e4 e5
  unfold Oper.wp
  rw [e6]
  exact ⟨v, H, _, rfl, fun x ex => by cases ex; exact e7, g1, g2⟩

theorem o_alloc (hT : TOk P T) {t : TypeId} {i : TyI} (b : Nat) (ho : o.op = .alloc t) (hi : T t = some i) (hb : h b = some .free) (hz : i.zero.length = i.size) (hp : 0 < i.size) (h1 : i.zero.all AV.cell1 = true) :
    OLoc P o e h [b] [(b, .row false i.size [i.zero])] (some (.ptr b 1 0 0)) := by
  refine OLoc.of_new hb (by simp) hp fun H ι a w s hs g1 g2 => ?_
  obtain ⟨info, d, e1, e2, e3, e4, e5, e6⟩ := tyOf_spec (hT _ _ hi)
  obtain ⟨z, hz1, hz2⟩ := zero_spec e6 hz hp
  obtain ⟨z1, z2⟩ := allAV_rel (H := H) (ι := ι) hz2
  have z1' : i.zero.length = z.cells.size := by simpa using z1
  refine ⟨_, z.cells, t, w, rfl, rfl, rfl, by simp; omega, ?_, ?_, .ptrL _ _ _ _ _ _ (lput_same _ _ _) rfl⟩
  · have := rowCells_one (H := H) (ι := ι) z1' (fun j y u h1 h2 => z2 j y u h1 (by simpa using h2)) h1
    rw [hz] at this
    exact this
  · simp [execOp, ho, Instr.alloc, zeroValue, typeInfo, e1, hz1, newVar, newRow]

theorem o_box {t : TypeId} {x : Operand} {p : AV} {sz : Nat} (b : Nat) (ho : o.op = .box t x) (hx : look e x = some p) (hb : h b = some .free) (hsz : p.cells.length = sz) (hp : 0 < sz) (h1 : p.cells.all AV.cell1 = true) :
    OLoc P o e h [b] [(b, .row false sz [p.cells])] (some (.ptr b 1 0 0)) := by
  refine OLoc.of_new hb (by simp) hp fun H ι a w s hs g1 g2 => ?_
  have hx' : look s.env x = some p := by rw [g1 x (by rw [ho]; simp [Op.operands]), hx]
  obtain ⟨c1, c2⟩ := cells_rel (look_rel hs hx')
  refine ⟨_, (a.eval x).cells, t, w, rfl, rfl, rfl, by simp; omega, ?_, ?_, .ptrL _ _ _ _ _ _ (lput_same _ _ _) rfl⟩
  · have := rowCells_one (H := H) (ι := ι) c1 c2 h1
    rw [hsz] at this
    exact this
  · simp [execOp, ho, Instr.box, newVar, newRow]

/-- Cells with some of them written over. -/
def splice (cs : List AV) (o : Nat) (vs : List AV) : List AV := cs.take o ++ vs ++ cs.drop (o + vs.length)

theorem splice_length {cs vs : List AV} {o : Nat} (h : o + vs.length ≤ cs.length) : (splice cs o vs).length = cs.length := by
  simp [splice]; omega
theorem splice_get {cs vs : List AV} {o j : Nat} (h : o + vs.length ≤ cs.length) : (splice cs o vs)[j]? = if j < o then cs[j]? else if j < o + vs.length then vs[j - o]? else cs[j]? := by
  unfold splice
  by_cases h1 : j < o
  · rw [if_pos h1, List.append_assoc, List.getElem?_append_left (by simp; omega), List.getElem?_take_of_lt h1]
  · rw [if_neg h1, List.append_assoc, List.getElem?_append_right (by simp; omega)]
    have hm : min o cs.length = o := by omega
    simp only [List.length_take, hm]
    by_cases h2 : j < o + vs.length
    · rw [if_pos h2, List.getElem?_append_left (by omega)]
    · rw [if_neg h2, List.getElem?_append_right (by omega), List.getElem?_drop]
      congr 1; omega

theorem setRow_os (w : World) (g : Nat) (cs : Array Value) : (w.setRow g cs).os = w.os := rfl
theorem setRow_out (w : World) (g : Nat) (cs : Array Value) : (w.setRow g cs).output = w.output := rfl

theorem run_isz {P : Program} {w : World} {t : TypeId} {info : TypeInfo} (h : P.info? t = some info) : (sizeOf t).run P w = .ok info.size w := by simp [sizeOf, typeInfo, h]

theorem mul_add_lt_mul {i n sz j : Nat} (h : i < n) (hj : j < sz) : i * sz + j < n * sz := by
  have : (i + 1) * sz ≤ n * sz := Nat.mul_le_mul_right _ h
  rw [Nat.add_mul] at this
  omega

theorem o_store (hT : TOk P T) {t : TypeId} {x y : Operand} {b m k off : Nat} {p : Bool} {sz : Nat} {es : List (List AV)} {cs : List AV} {q : AV} {i : TyI} (ho : o.op = .store t x y) (hd : o.dst = none) (hx : look e x = some (.ptr b m k off)) (hy : look e y = some q) (hi : T t = some i)
    (hb : h b = some (.row p sz es)) (hm : m = es.length) (hk : es[k]? = some cs) (hq : q.cells.length = i.size) (hfit : off + i.size ≤ sz) (h1 : q.cells.all AV.cell1 = true) (hp : p = true → q.cells.all AV.isPure1 = true) :
    OLoc P o e h [b] [(b, .row p sz (es.set k (splice cs off q.cells)))] none := by
  intro H ι a w s Q hs g1 g2
  have hx' : look s.env x = some (.ptr b m k off) := by rw [g1 x (by rw [ho]; simp [Op.operands]), hx]
  have hy' : look s.env y = some q := by rw [g1 y (by rw [ho]; simp [Op.operands]), hy]
  have hb' : s.h b = some (.row p sz es) := by rw [g2 b (by simp), hb]
  obtain ⟨info, d, e1, e2, e3, e4, e5, e6⟩ := tyOf_spec (hT _ _ hi)
  obtain ⟨c1, c2⟩ := cells_rel (look_rel hs hy')
  obtain ⟨r, hl, ⟨r1, r2, r3, r4, r5, r6⟩, r7⟩ := hs.heap.obj b _ hb' rfl
  have hklt : k < es.length := by
    rcases Nat.lt_or_ge k es.length with h | h
    · exact h
    · rw [List.getElem?_eq_none h] at hk; cases hk
  have hsol : r.solid := fun h0 => by
    have : 0 < es.length * sz := Nat.mul_pos (by omega) r2
    omega
  obtain ⟨c, TT, w1, w2, w3⟩ := r6 hsol
  have hpv := (look_rel hs hx').ptr_live hl (by omega)
  have hcs : cs.length = sz := r5 k cs hk
  have hlen : (a.eval y).cells.toList.length = i.size := by rw [Array.length_toList, ← c1, hq]
  have hroom : k * sz + off + i.size ≤ c.size := by
    have : (k + 1) * sz ≤ es.length * sz := Nat.mul_le_mul_right _ hklt
    rw [Nat.add_mul] at this
    omega
  have hone : ∀ v ∈ (a.eval y).cells.toList, v.oneCell' = true := fun v hv => by
    obtain ⟨j, hj⟩ := List.getElem?_of_mem hv
    have hjl : j < q.cells.length := by
      rcases Nat.lt_or_ge j q.cells.length with h | h
      · exact h
      · rw [List.getElem?_eq_none (by rw [hlen]; omega)] at hj; cases hj
    exact cell1_rel (c2 j _ v (List.getElem?_eq_getElem hjl) (by simpa using hj)) (List.all_eq_true.1 h1 _ (List.getElem_mem hjl))
  have hst := run_storeCells_at P r.rb (k * sz + off) TT (a.eval y).cells.toList 0 c w w1 (by rw [hlen]; omega) hone
  simp only [Nat.add_zero, hlen] at hst
  have hrun : (execOp a.eval o).run P w = .ok .skip (w.setRow r.rb (c.toList.take (k * sz + off) ++ (a.eval y).cells.toList ++ c.toList.drop (k * sz + off + i.size)).toArray) := by
    have hsize : (a.eval y).cells.size = info.size := by rw [← c1, hq, e4]
    simp only [execOp, ho, Instr.storeAt, hpv, Instr.sureAddr, Sem.run_bind, Sem.run_pure, Result.andThen_ok, storeVar, run_isz e1, hsize, ne_eq, not_true_eq_false, if_false, r1, hst]
  have hobj : ObjOk H (lput ι b r) (w.setRow r.rb (c.toList.take (k * sz + off) ++ (a.eval y).cells.toList ++ c.toList.drop (k * sz + off + i.size)).toArray) r (.row p sz (es.set k (splice cs off q.cells))) := by
    have hsp : off + q.cells.length ≤ cs.length := by omega
    refine ⟨r1, r2, by simp [r3], by simp; exact r4, fun j x hj => ?_, fun _ => ⟨_, TT, setRow_heap w r.rb c _ TT _ w1, ?_, fun j x hj => ?_, fun j x l z hj hl' => ?_⟩⟩
    · by_cases hjk : j = k
      · subst hjk
        rw [List.getElem?_set_self hklt] at hj
        cases hj
        rw [splice_length hsp, hcs]
      · rw [List.getElem?_set_ne (Ne.symm hjk)] at hj
        exact r5 j x hj
    · simp; omega
    · by_cases hjk : j = k
      · subst hjk
        rw [List.getElem?_set_self hklt] at hj
        cases hj
        rw [splice_length hsp, hcs]
      · rw [List.getElem?_set_ne (Ne.symm hjk)] at hj
        exact r5 j x hj
    · have hll : LLe (bif p then noLay else ι) (bif p then noLay else lput ι b r) := by
        cases p
        · exact LLe.put fun r' e => by change ι b = some r' at e; rw [hl] at e; cases e; exact .inl rfl
        · exact LLe.refl _
      have hjlt : j < es.length := by
        rcases Nat.lt_or_ge j es.length with h | h
        · exact h
        · rw [List.getElem?_eq_none (by simpa using h)] at hj; cases hj
      have hllt : l < sz := by
        have hxl : x.length = sz := by
          by_cases hjk : j = k
          · subst hjk; rw [List.getElem?_set_self hklt] at hj; cases hj; rw [splice_length hsp, hcs]
          · rw [List.getElem?_set_ne (Ne.symm hjk)] at hj; exact r5 j x hj
        rcases Nat.lt_or_ge l x.length with h | h
        · omega
        · rw [List.getElem?_eq_none h] at hl'; cases hl'
      -- what the new cells hold
      have hget : ∀ u : Nat, (c.toList.take (k * sz + off) ++ (a.eval y).cells.toList ++ c.toList.drop (k * sz + off + i.size)).toArray[u]? =
          if u < k * sz + off then c[u]? else if u < k * sz + off + i.size then (a.eval y).cells[u - (k * sz + off)]? else c[u]? := fun u => by
        have hm : min (k * sz + off) c.size = k * sz + off := by omega
        simp only [List.getElem?_toArray, List.append_assoc]
        by_cases h1 : u < k * sz + off
        · rw [if_pos h1, List.getElem?_append_left (by simp; omega), List.getElem?_take_of_lt h1, Array.getElem?_toList]
        · rw [if_neg h1, List.getElem?_append_right (by simp; omega)]
          simp only [List.length_take, Array.length_toList, hm]
          by_cases h2 : u < k * sz + off + i.size
          · rw [if_pos h2, List.getElem?_append_left (by rw [hlen]; omega), Array.getElem?_toList]
          · rw [if_neg h2, List.getElem?_append_right (by rw [hlen]; omega), List.getElem?_drop, hlen, Array.getElem?_toList]
            congr 1; omega
      rw [hget]
      by_cases hjk : j = k
      · subst hjk
        rw [List.getElem?_set_self hklt] at hj
        cases hj
        rw [splice_get hsp] at hl'
        by_cases h3 : l < off
        · rw [if_pos h3] at hl'
          rw [if_pos (by omega)]
          obtain ⟨v, f1, f2, f3⟩ := w3.2 j cs l z hk hl'
          exact ⟨v, f1, f2.mono (KLe.refl _) hll, f3⟩
        · rw [if_neg h3] at hl'
          rw [if_neg (by omega)]
          by_cases h4 : l < off + q.cells.length
          · rw [if_pos h4] at hl'
            rw [if_pos (by omega)]
            have hidx : j * sz + l - (j * sz + off) = l - off := by omega
            rw [hidx]
            have hlt : l - off < (a.eval y).cells.size := by omega
            obtain ⟨v, hv⟩ := getElem?_some_of_lt hlt
            have hz := c2 _ _ _ hl' hv
            refine ⟨v, hv, ?_, List.all_eq_true.1 h1 z (List.mem_of_getElem? hl')⟩
            cases p with
            | false => exact hz.mono (KLe.refl _) hll
            | true => exact pure1_rel (List.all_eq_true.1 (hp rfl) z (List.mem_of_getElem? hl')) hz
          · rw [if_neg h4] at hl'
            rw [if_neg (by omega)]
            obtain ⟨v, f1, f2, f3⟩ := w3.2 j cs l z hk hl'
            exact ⟨v, f1, f2.mono (KLe.refl _) hll, f3⟩
      · rw [List.getElem?_set_ne (Ne.symm hjk)] at hj
        obtain ⟨v, f1, f2, f3⟩ := w3.2 j x l z hj hl'
        refine ⟨v, ?_, f2.mono (KLe.refl _) hll, f3⟩
        rcases Nat.lt_or_ge j k with h5 | h5
        · have := mul_add_lt_mul h5 hllt
          rw [if_pos (by omega)]; exact f1
        · have h6 : (k + 1) * sz ≤ j * sz := Nat.mul_le_mul_right _ (by omega)
          rw [Nat.add_mul] at h6
          rw [if_neg (by omega), if_neg (by omega)]; exact f1
  obtain ⟨u1, u2⟩ := hs.heap.upd (o0 := .row p sz es) (o' := .row p sz (es.set k (splice cs off q.cells))) (r' := r) hb' rfl (.inr ⟨r, hl, rfl, .inl rfl⟩) (fun hs' => .inr ⟨r, hl, rfl, hs', rfl⟩)
    (fun rb hlt hne => setRow_other w r.rb rb _ (hne r hl rfl hsol)) (by simp) (setRow_os _ _ _) (setRow_out _ _ _) hobj
  unfold Oper.wp
  rw [hrun]
  exact ⟨undef, H, _, rfl, (fun x ex => by cases ex), u1, u2⟩

end
end Go.Proofs.Ytidfabbnobipkaa.Sv
