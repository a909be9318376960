/-
  STRUCTS BUILT AND COMPARED, SLICES WRITTEN OUT AND CUT, BYTES OF STRINGS; AND WHAT CHANGES IN THOUGHT ALONE: own work, over no program.
-/
import Derived.Test.YtidfabbnobipkaaSv14
namespace Go.Proofs.Ytidfabbnobipkaa.Sv
open Go
set_option linter.unusedVariables false
set_option linter.unusedSimpArgs false

/-! ### comparing -/
/-- What has to hold of a struct's type so that its values are compared cell by cell. -/
def eqPlain (P : Program) (t : TypeId) : Bool :=
  !P.stoodInHeld t && !P.eqGuardType P.depth t &&
  match P.underlying t with
  | some (.struct fs) => (List.range fs.size).all fun i => match fs[i]? with
    | some f => f.name != "_" && f.offset == i && (match P.underlying f.type with | some (.int _) | some .bool | some .string => true | _ => false)
    | none => false
  | _ => false

def isScalarD : TypeDesc → Bool
  | .int _ | .bool | .string => true
  | _ => false
/-- two cells of a type -/
def fits2 : AV → AV → TypeDesc → Prop
  | .int ka _, .int kb _, .int _ => ka = kb
  | .bool _, .bool _, .bool => True
  | .str _, .str _, .string => True
  | _, _, _ => False
theorem run_part1 {P : Program} {w : World} {t : TypeId} {d : TypeDesc} {cs : Array Value} {off : Nat} {v : Value} (h : P.underlying t = some d) (hd : isScalarD d = true) (hv : cs[off]? = some v) : (part t cs off).run P w = .ok v w := by
  have : isAggD d = false := by cases d <;> first | rfl | (simp [isScalarD] at hd)
  simp only [part, Sem.run_bind, run_isAgg h, Result.andThen_ok, this, Bool.false_eq_true, if_false, hv, Sem.run_pure]

/-- the fields from one on -/
theorem run_eqFields {P : Program} {w : World} {H : Know} {ι : Lay} {n : Nat} {xs ys : List AV} {us vs : Array Value} (hlx : xs.length = us.size) (hly : ys.length = vs.size)
    (hx : ∀ (j : Nat) (x : AV) (v : Value), xs[j]? = some x → us[j]? = some v → Rel H ι x v) (hy : ∀ (j : Nat) (x : AV) (v : Value), ys[j]? = some x → vs[j]? = some v → Rel H ι x v)
    (fs : List Field) : ∀ (k : Nat) (r : Bool), (∀ i f, fs[i]? = some f → f.name ≠ "_" ∧ f.offset = k + i ∧ ∃ d, P.underlying f.type = some d ∧
        ∀ x y, xs[k + i]? = some x → ys[k + i]? = some y → fits2 x y d) →
      eqCells (xs.drop k) (ys.drop k) = some r → k + fs.length = xs.length → (Op.eqFields (n + 1) us vs fs).run P w = .ok r w := by
  induction fs with
  | nil =>
    intro k r _ he hl
    simp only [List.length_nil, Nat.add_zero] at hl
    rw [List.drop_of_length_le (by omega)] at he
    cases hyd : ys.drop k with
    | nil => rw [hyd] at he; simp [eqCells] at he; subst he; simp [Op.eqFields]
    | cons y l => rw [hyd] at he; simp [eqCells] at he
  | cons f fs ih =>
    intro k r hf he hl
    obtain ⟨g1, g2, d, g3, g4⟩ := hf 0 f rfl
    simp only [Nat.add_zero] at g2 g4
    have hk : k < xs.length := by simp at hl; omega
    rw [List.drop_eq_getElem_cons hk] at he
    cases hyd : ys.drop k with
    | nil => rw [hyd] at he; simp [eqCells] at he
    | cons y l =>
      have hky : k < ys.length := by
        rcases Nat.lt_or_ge k ys.length with h | h
        · exact h
        · rw [List.drop_of_length_le h] at hyd; cases hyd
      rw [List.drop_eq_getElem_cons hky] at hyd
      cases hyd
      rw [List.drop_eq_getElem_cons hky] at he
      unfold eqCells at he
      cases e1 : eqCell xs[k] ys[k] with
      | none => rw [e1] at he; simp at he
      | some p =>
        cases e2 : eqCells (xs.drop (k + 1)) (ys.drop (k + 1)) with
        | none => rw [e1, e2] at he; simp at he
        | some q =>
          rw [e1, e2] at he
          simp only [Option.some.injEq] at he
          obtain ⟨u, hu⟩ := getElem?_some_of_lt (c := us) (j := k) (by omega)
          obtain ⟨v, hv⟩ := getElem?_some_of_lt (c := vs) (j := k) (by omega)
          have hru := hx k _ u (List.getElem?_eq_getElem hk) hu
          have hrv := hy k _ v (List.getElem?_eq_getElem hky) hv
          replace g4 := g4 _ _ (List.getElem?_eq_getElem hk) (List.getElem?_eq_getElem hky)
          have hdd : isScalarD d = true := by
            cases d <;> first | rfl | (exfalso; revert g4; cases xs[k] <;> cases ys[k] <;> exact id)
          have heq : (Op.equalIn (n + 1) f.type u v).run P w = .ok p w := by
            clear ih hf hl
            generalize xs[k] = x at *
            generalize ys[k] = y at *
            cases x <;> simp [eqCell] at e1 <;> cases y <;> simp [eqCell] at e1
            · have a1 := hru.bool_inv; have a2 := hrv.bool_inv; subst a1; subst a2
              cases d <;> simp [fits2] at g4
              rw [run_equalIn_bool' w n f.type _ _ g3, ← e1]
            · have a1 := hru.int_inv; have a2 := hrv.int_inv; subst a1; subst a2
              cases d <;> simp [fits2] at g4
              subst g4
              simp at e1
              rw [run_equalIn_int w n f.type _ _ _ _ g3, ← e1]
            · have a1 := hru.str_inv; have a2 := hrv.str_inv; subst a1; subst a2
              cases d <;> simp [fits2] at g4
              rw [run_equalIn_string w n f.type _ _ g3, ← e1]
          have ihh := ih (k + 1) q (fun i f' hf' => by have := hf (i + 1) f' (by simpa using hf'); rwa [show k + (i + 1) = k + 1 + i by omega] at this) e2 (by simp at hl ⊢; omega)
          simp only [Op.eqFields, g1, ne_eq, not_false_eq_true, if_true, Sem.run_bind, g2, run_part1 g3 hdd hu, run_part1 g3 hdd hv, Result.andThen_ok, heq]
          cases p with
          | true => simp only [Bool.not_true, Bool.false_eq_true, if_false, ihh]; rw [← he]; rfl
          | false => simp only [Bool.not_false, if_true, Sem.run_pure]; rw [← he]; rfl

section
variable {P : Program} {T : Nat → Option TyI} {o : Oper} {e : AEnv} {h : AHeap}

/-- kinds of cells as their types want them -/
def cellKind : TK → AV → Bool
  | .int k, .int k' _ => decide (k = k')
  | .bool, .bool _ => true
  | .string, .str _ => true
  | _, _ => false
def cellKinds (T : Nat → Option TyI) : List (Nat × Nat) → List AV → Bool
  | [], [] => true
  | (_, t) :: fs, x :: xs => (match T t with | some i => cellKind i.k x | none => false) && cellKinds T fs xs
  | _, _ => false

theorem cellKinds_get {fs : List (Nat × Nat)} : ∀ {xs : List AV}, cellKinds T fs xs = true → fs.length = xs.length ∧ ∀ (i : Nat) (f : Nat × Nat) (x : AV), fs[i]? = some f → xs[i]? = some x → ∃ t, T f.2 = some t ∧ cellKind t.k x = true := by
  induction fs with
  | nil => intro xs h; cases xs with | nil => exact ⟨rfl, fun i f x h => by simp at h⟩ | cons => simp [cellKinds] at h
  | cons f fs ih =>
    intro xs h
    cases xs with
    | nil => simp [cellKinds] at h
    | cons x xs =>
      obtain ⟨o, t⟩ := f
      simp only [cellKinds, Bool.and_eq_true] at h
      obtain ⟨h1, h2⟩ := ih h.2
      refine ⟨by simp [h1], fun i g y g1 g2 => ?_⟩
      cases i with
      | zero =>
        simp at g1 g2; subst g1; subst g2
        have := h.1
        cases e : T t with
        | none => rw [e] at this; cases this
        | some i => rw [e] at this; exact ⟨i, rfl, this⟩
      | succ i => simp at g1 g2; exact h2 i g y g1 g2

theorem q_eqStruct (hT : TOk P T) {t t' : TypeId} {x y : Operand} {xs ys : List AV} {i : TyI} {fs : List (Nat × Nat)} {r : Bool} (neg : Bool) (ho : o.op = .binOp (bif neg then .neq else .eql) t x y t') (hx : look e x = some (.agg xs)) (hy : look e y = some (.agg ys)) (hp : eqPlain P t = true) (hi : T t = some i) (hk : i.k = .struct fs)
    (h1 : cellKinds T fs xs = true) (h2 : cellKinds T fs ys = true) (hr : eqCells xs ys = some r) : QLoc P o e h [] (.bool (bif neg then !r else r)) := by
  intro H ι a w s hs g1 g2
  have hx' : look s.env x = some (.agg xs) := by rw [g1 x (by rw [ho]; simp [Op.operands]), hx]
  have hy' : look s.env y = some (.agg ys) := by rw [g1 y (by rw [ho]; simp [Op.operands]), hy]
  obtain ⟨us, hvx, hlx, hrx⟩ := (look_rel hs hx').agg_inv
  obtain ⟨vs, hvy, hly, hry⟩ := (look_rel hs hy').agg_inv
  obtain ⟨info, d, e1, e2, e3, e4, e5, e6⟩ := tyOf_spec (hT _ _ hi)
  obtain ⟨A, rfl, rfl, hz⟩ := tk_struct (P := P) (d := d) (e3 ▸ hk)
  simp only [eqPlain, Bool.and_eq_true, Bool.not_eq_true', e2] at hp
  obtain ⟨⟨p1, p2⟩, p3⟩ := hp
  have hfields : P.fieldsOf t = A := by simp [Program.fieldsOf, e2]
  obtain ⟨k1, k2⟩ := cellKinds_get h1
  obtain ⟨k3, k4⟩ := cellKinds_get h2
  have hrun : (Op.equalIn 10000 t (.agg us) (.agg vs)).run P w = .ok r w := by
    rw [run_equalIn_struct w 9999 t us vs (by rw [hfields]; exact e2) p1, hfields]
    refine run_eqFields (n := 9998) hlx hly hrx hry A.toList 0 r (fun i f hf => ?_) (by simpa using hr) (by simpa using k1)
    rw [Array.getElem?_toList] at hf
    have hlt : i < A.size := (Array.getElem?_eq_some_iff.1 hf).1
    have hq := List.all_eq_true.1 p3 i (List.mem_range.2 hlt)
    simp only [hf, Bool.and_eq_true, bne_iff_ne, ne_eq, beq_iff_eq] at hq
    refine ⟨hq.1.1, by omega, ?_⟩
    have hxi : i < xs.length := by simp at k1; omega
    have hyi : i < ys.length := by simp at k3; omega
    obtain ⟨tx, a1, a2⟩ := k2 i (f.offset, f.type) xs[i] (by simp [hf]) (List.getElem?_eq_getElem hxi)
    obtain ⟨ty, b1, b2⟩ := k4 i (f.offset, f.type) ys[i] (by simp [hf]) (List.getElem?_eq_getElem hyi)
    rw [a1] at b1; cases b1
    obtain ⟨info', d', c1, c2, c3, _⟩ := tyOf_spec (hT _ _ a1)
    refine ⟨d', c2, ?_⟩
    intro xx yy hxx hyy
    rw [Nat.zero_add, List.getElem?_eq_getElem hxi] at hxx
    rw [Nat.zero_add, List.getElem?_eq_getElem hyi] at hyy
    cases hxx; cases hyy
    generalize xs[i] = xx at *
    generalize ys[i] = yy at *
    cases ek : tx.k <;> rw [ek] at a2 b2 <;> cases xx <;> simp [cellKind] at a2 <;> cases yy <;> simp [cellKind] at b2
    · rw [tk_bool (P := P) (d := d') (by rw [← c3, ek])]; simp [fits2]
    · rw [tk_int (P := P) (d := d') (by rw [← c3, ek])]; simp [fits2, ← a2, ← b2]
    · rw [tk_string (P := P) (d := d') (by rw [← c3, ek])]; simp [fits2]
  refine ⟨_, .bool _ _, ?_⟩
  cases neg with
  | true =>
    simp only [cond_true] at ho ⊢
    simp only [execOp, ho, hvx, hvy, Sem.run_bind, run_eqGuard_agg w .neq t x y us vs p2, Result.andThen_ok, run_neq_struct, hrun, Sem.run_pure]
  | false =>
    simp only [cond_false] at ho ⊢
    simp only [execOp, ho, hvx, hvy, Sem.run_bind, run_eqGuard_agg w .eql t x y us vs p2, Result.andThen_ok, run_eql_struct, hrun, Sem.run_pure]

/-! ### building -/
def partCells (fs : List (Nat × Nat)) : List (Nat × AV) → List AV → Option (List AV)
  | [], cs => some cs
  | (i, x) :: ps, cs => match fs[i]? with
    | some (off, _) => bif Nat.ble (off + x.cells.length) cs.length then partCells fs ps (splice cs off x.cells) else none
    | none => none

def lookParts (e : AEnv) : List (Nat × Operand) → Option (List (Nat × AV))
  | [] => some []
  | (i, x) :: ps => match look e x, lookParts e ps with
    | some y, some ys => some ((i, y) :: ys)
    | _, _ => none

theorem foldl_set_size (l : List (Value × Nat)) (off : Nat) : ∀ cs : Array Value, (l.foldl (fun cs (c, j) => cs.setIfInBounds (off + j) c) cs).size = cs.size := by
  induction l with
  | nil => intro cs; rfl
  | cons x l ih => intro cs; simp [ih]

theorem foldl_set_get (off : Nat) : ∀ (vs : List Value) (k : Nat) (cs : Array Value) (j : Nat), (( vs.zipIdx k).foldl (fun cs (c, j) => cs.setIfInBounds (off + j) c) cs)[j]? =
    if off + k ≤ j ∧ j < off + k + vs.length ∧ j < cs.size then vs[j - (off + k)]? else cs[j]?
  | [], k, cs, j => by simp; intro h1 h2; omega
  | v :: vs, k, cs, j => by
    rw [List.zipIdx_cons, List.foldl_cons, foldl_set_get off vs (k + 1)]
    simp only [Array.size_setIfInBounds, List.length_cons]
    by_cases h1 : off + (k + 1) ≤ j ∧ j < off + (k + 1) + vs.length ∧ j < cs.size
    · rw [if_pos h1, if_pos (by omega)]
      have : j - (off + k) = (j - (off + (k + 1))) + 1 := by omega
      rw [this, List.getElem?_cons_succ]
    · rw [if_neg h1]
      by_cases h2 : j = off + k
      · subst h2
        by_cases h3 : off + k < cs.size
        · rw [if_pos (by omega)]; simp [h3]
        · rw [if_neg (by omega)]; simp [h3]
      · rw [Array.getElem?_setIfInBounds_ne (by omega), if_neg (by omega)]

theorem fill_rel {H : Know} {ι : Lay} {s : AState} {a : Act} {w : World} {fs : List (Nat × Nat)} {places : Array (Nat × Nat)} (hpl : ∀ (i off t : Nat), fs[i]? = some (off, t) → ∃ i', T t = some i' ∧ places[i]? = some (off, i'.size)) :
    ∀ (ps : List (Nat × AV)) (qs : List (Nat × Value)) (cs : List AV) (us : Array Value) (r : List AV), ps.length = qs.length → (∀ (k : Nat) (p : Nat × AV) (q : Nat × Value), ps[k]? = some p → qs[k]? = some q → p.1 = q.1 ∧ Rel H ι p.2 q.2 ∧ ∀ (off t : Nat) (i' : TyI), fs[p.1]? = some (off, t) → T t = some i' → p.2.cells.length = i'.size) →
      cs.length = us.size → (∀ (j : Nat) (x : AV) (v : Value), cs[j]? = some x → us[j]? = some v → Rel H ι x v) → partCells fs ps cs = some r →
      ∃ vs, Instr.fill (places[·]?) us qs = some vs ∧ r.length = vs.size ∧ ∀ (j : Nat) (x : AV) (v : Value), r[j]? = some x → vs[j]? = some v → Rel H ι x v
  | [], qs, cs, us, r, hl, _, hlen, hrel, hr => by
    have : qs = [] := List.eq_nil_of_length_eq_zero (by simpa using hl.symm)
    subst this
    simp [partCells] at hr
    subst hr
    exact ⟨us, rfl, hlen, hrel⟩
  | (i, x) :: ps, [], cs, us, r, hl, _, _, _, _ => by simp at hl
  | (i, x) :: ps, (i', v) :: qs, cs, us, r, hl, hp, hlen, hrel, hr => by
    obtain ⟨h1, h2, h3⟩ := hp 0 (i, x) (i', v) rfl rfl
    simp only at h1 h2 h3
    subst h1
    unfold partCells at hr
    cases ef : fs[i]? with
    | none => rw [ef] at hr; cases hr
    | some ot =>
      obtain ⟨off, t⟩ := ot
      rw [ef] at hr
      simp only at hr
      cases eb : Nat.ble (off + x.cells.length) cs.length with
      | false => rw [eb] at hr; cases hr
      | true =>
        rw [eb] at hr
        simp only [cond_true] at hr
        have hle := Nat.le_of_ble_eq_true eb
        obtain ⟨ti, k1, k2⟩ := hpl i off t ef
        obtain ⟨c1, c2⟩ := cells_rel h2
        have hsz := h3 off t ti ef k1
        have hcs : (splice cs off x.cells).length = cs.length := splice_length hle
        have hget := foldl_set_get off v.cells.toList 0 us
        have hfs : (v.cells.zipIdx.foldl (fun cs (c, j) => cs.setIfInBounds (off + j) c) us) = ((v.cells.toList.zipIdx 0).foldl (fun cs (c, j) => cs.setIfInBounds (off + j) c) us) := by
          rw [← Array.foldl_toList]; simp
        have ih := fill_rel hpl (H := H) (ι := ι) (s := s) (a := a) (w := w) ps qs (splice cs off x.cells) (v.cells.zipIdx.foldl (fun cs (c, j) => cs.setIfInBounds (off + j) c) us) r (by simpa using hl) (fun k p q g1 g2 => hp (k + 1) p q (by simpa using g1) (by simpa using g2))
          (by rw [hcs, hfs, foldl_set_size]; exact hlen) (fun j y u g1 g2 => by
            rw [hfs, hget] at g2
            rw [splice_get hle] at g1
            simp only [Nat.add_zero, Array.length_toList] at g2
            by_cases q1 : j < off
            · rw [if_pos q1] at g1; rw [if_neg (by omega)] at g2; exact hrel j y u g1 g2
            · rw [if_neg q1] at g1
              by_cases q2 : j < off + x.cells.length
              · rw [if_pos q2] at g1
                rw [if_pos (by omega)] at g2
                exact c2 _ y u g1 (by simpa using g2)
              · rw [if_neg q2] at g1; rw [if_neg (by omega)] at g2; exact hrel j y u g1 g2) hr
        obtain ⟨vs, f1, f2⟩ := ih
        refine ⟨vs, ?_, f2⟩
        unfold Instr.fill
        simp only [k2]
        rw [if_neg (by simp only [Bool.or_eq_true, decide_eq_true_eq, not_or]; exact ⟨by simp; omega, by omega⟩)]
        exact f1

def partsFit (T : Nat → Option TyI) (fs : List (Nat × Nat)) : List (Nat × AV) → Bool
  | [] => true
  | (i, x) :: ps => (match fs[i]? with
    | some (_, t) => (match T t with | some j => Nat.beq x.cells.length j.size | none => false)
    | none => false) && partsFit T fs ps
def allKnown (T : Nat → Option TyI) : List (Nat × Nat) → Bool
  | [] => true
  | (_, t) :: fs => (match T t with | some _ => true | none => false) && allKnown T fs

theorem lookParts_rel {H : Know} {ι : Lay} {s : AState} {a : Act} {w : World} (hs : Sim H ι s a w) : ∀ {l : List (Nat × Operand)} {xs : List (Nat × AV)}, lookParts s.env l = some xs →
    xs.length = l.length ∧ ∀ (k : Nat) (p : Nat × AV) (q : Nat × Value), xs[k]? = some p → (l.map fun (i, x) => (i, a.eval x))[k]? = some q → p.1 = q.1 ∧ Rel H ι p.2 q.2
  | [], xs, h => by simp [lookParts] at h; subst h; exact ⟨rfl, fun k p q h => by simp at h⟩
  | (i, y) :: l, xs, h => by
    unfold lookParts at h
    split at h
    · rename_i x ys h1 h2
      simp at h; subst h
      obtain ⟨i1, i2⟩ := lookParts_rel hs h2
      refine ⟨by simp [i1], fun k p q g1 g2 => ?_⟩
      cases k with
      | zero => simp at g1 g2; subst g1; subst g2; exact ⟨rfl, look_rel hs h1⟩
      | succ k => simp only [List.getElem?_cons_succ, List.map_cons] at g1 g2; exact i2 k p q g1 g2
    · cases h

theorem lookParts_agree {e e' : AEnv} : ∀ {l : List (Nat × Operand)}, (∀ x ∈ l.map (·.2), look e' x = look e x) → lookParts e' l = lookParts e l
  | [], _ => rfl
  | (i, x) :: l, h => by
    unfold lookParts
    rw [h x (by simp), lookParts_agree (l := l) (fun y hy => h y (by simp at hy ⊢; exact .inr hy))]

theorem partsFit_get {fs : List (Nat × Nat)} : ∀ {ps : List (Nat × AV)}, partsFit T fs ps = true → ∀ (k : Nat) (p : Nat × AV), ps[k]? = some p → ∀ (off t : Nat) (i' : TyI), fs[p.1]? = some (off, t) → T t = some i' → p.2.cells.length = i'.size
  | [], _, k, p, h => by simp at h
  | (i, x) :: ps, hf, k, p, h => by
    simp only [partsFit, Bool.and_eq_true] at hf
    cases k with
    | zero =>
      simp at h; subst h
      intro off t i' h1 h2
      have := hf.1
      rw [h1] at this
      simp only [h2] at this
      exact Nat.eq_of_beq_eq_true this
    | succ k => simp at h; exact partsFit_get hf.2 k p h

theorem q_build (hT : TOk P T) {t : TypeId} {parts : Array (Nat × Operand)} {i : TyI} {fs : List (Nat × Nat)} {ps : List (Nat × AV)} {r : List AV} (ho : o.op = .build t parts) (hx : lookParts e parts.toList = some ps) (hi : T t = some i) (hk : i.k = .struct fs) (hz : i.zero.length = i.size) (hp : 0 < i.size)
    (hfit : partsFit T fs ps = true) (hall : allKnown T fs = true) (hr : partCells fs ps i.zero = some r) : QLoc P o e h [] (.agg r) := by
  intro H ι a w s hs g1 g2
  have hx' : lookParts s.env parts.toList = some ps := by
    rw [lookParts_agree (e := e) (fun x hx => g1 x (by rw [ho]; simp only [Op.operands, List.mem_toArray]; exact hx))]; exact hx
  obtain ⟨l1, l2⟩ := lookParts_rel hs hx'
  obtain ⟨info, d, e1, e2, e3, e4, e5, e6⟩ := tyOf_spec (hT _ _ hi)
  obtain ⟨A, rfl, rfl, hzz⟩ := tk_struct (P := P) (d := d) (e3 ▸ hk)
  obtain ⟨z, hz1, hz2⟩ := zero_spec e6 hz hp
  obtain ⟨z1, z2⟩ := allAV_rel (H := H) (ι := ι) hz2
  -- the places
  have hplaces : ∃ places : Array (Nat × Nat), (A.mapM fun f => (do pure (f.offset, ← sizeOf f.type) : Sem (Nat × Nat))).run P w = .ok places w ∧ ∀ (i off t : Nat), (A.toList.map fun f => (f.offset, f.type))[i]? = some (off, t) → ∃ i', T t = some i' ∧ places[i]? = some (off, i'.size) := by
    rw [Array.mapM_eq_mapM_toList]
    simp only [Sem.run_map]
    have hknown : ∀ f ∈ A.toList, ∃ i', T f.type = some i' := by
      intro f hf
      have : ∀ (l : List (Nat × Nat)), allKnown T l = true → ∀ p ∈ l, ∃ i', T p.2 = some i' := by
        intro l
        induction l with
        | nil => intro _ p hp; cases hp
        | cons q l ih =>
          intro hq p hp
          obtain ⟨oq, tq⟩ := q
          simp only [allKnown, Bool.and_eq_true] at hq
          rcases List.mem_cons.1 hp with rfl | hp
          · have := hq.1
            simp only
            cases hh : T tq with
            | none => rw [hh] at this; cases this
            | some i' => exact ⟨i', rfl⟩
          · exact ih hq.2 p hp
      exact this _ hall (f.offset, f.type) (List.mem_map.2 ⟨f, hf, rfl⟩)
    clear hall hfit hr l2 l1 hx' hx hk hzz e3 e2
    generalize A.toList = fl at *
    suffices hh : ∃ l : List (Nat × Nat), (fl.mapM fun f => (do pure (f.offset, ← sizeOf f.type) : Sem (Nat × Nat))).run P w = .ok l w ∧ ∀ (i off t : Nat), (fl.map fun f => (f.offset, f.type))[i]? = some (off, t) → ∃ i', T t = some i' ∧ l[i]? = some (off, i'.size) by
      obtain ⟨l, h1, h2⟩ := hh
      exact ⟨l.toArray, by rw [h1]; rfl, fun i off t h3 => by obtain ⟨i', h4, h5⟩ := h2 i off t h3; exact ⟨i', h4, by simpa using h5⟩⟩
    induction fl with
    | nil => exact ⟨[], by simp, fun i off t h => by simp at h⟩
    | cons f fl ih =>
      obtain ⟨l, h1, h2⟩ := ih (fun g hg => hknown g (by simp [hg]))
      obtain ⟨i', hi'⟩ := hknown f (by simp)
      obtain ⟨info', d', c1, c2, c3, c4, _⟩ := tyOf_spec (hT _ _ hi')
      refine ⟨(f.offset, i'.size) :: l, ?_, fun k off t h3 => ?_⟩
      · rw [List.mapM_cons]
        simp only [Sem.run_bind, run_isz c1, Result.andThen_ok, Sem.run_pure, h1, c4]
      · cases k with
        | zero => simp at h3; obtain ⟨rfl, rfl⟩ := h3; exact ⟨i', hi', rfl⟩
        | succ k => simp only [List.map_cons, List.getElem?_cons_succ] at h3 ⊢; exact h2 k off t h3
  obtain ⟨places, hpl1, hpl2⟩ := hplaces
  obtain ⟨vs, f1, f2, f3⟩ := fill_rel (T := T) (s := s) (a := a) (w := w) hpl2 ps (parts.toList.map fun (i, x) => (i, a.eval x)) i.zero z.cells r (by simp [l1]) (fun k p q k1 k2 => ⟨(l2 k p q k1 k2).1, (l2 k p q k1 k2).2, partsFit_get hfit k p k1⟩) (by simpa using z1) (fun j x v k1 k2 => z2 j x v k1 (by simpa using k2)) hr
  refine ⟨.agg vs, .agg _ _ _ f2 f3, ?_⟩
  have hparts : (parts.map fun (i, x) => (i, a.eval x)).toList = parts.toList.map fun (i, x) => (i, a.eval x) := by simp
  simp only [execOp, ho, Instr.build, zeroValue, typeInfo, Sem.run_bind, run_program, Result.andThen_ok, e1, hz1, Sem.run_pure, run_underlying' e2, hpl1, hparts, f1]

end
end Go.Proofs.Ytidfabbnobipkaa.Sv
