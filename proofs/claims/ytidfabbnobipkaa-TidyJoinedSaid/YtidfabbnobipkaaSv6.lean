/-
  MORE OPERATIONS THAT ONLY READ: own work, over no program.
-/
import Derived.Test.YtidfabbnobipkaaSv5
namespace Go.Proofs.Ytidfabbnobipkaa.Sv
open Go
set_option linter.unusedVariables false
set_option linter.unusedSimpArgs false

theorem tk_struct {P : Program} {d : TypeDesc} {fs : List (Nat × Nat)} (h : tkOf P d = .struct fs) : ∃ a, d = .struct a ∧ fs = a.toList.map (fun f => (f.offset, f.type)) ∧ ∀ f ∈ a, P.cellsOf f.type ≠ 0 := by
  cases d <;> simp [tkOf] at h
  rename_i a
  cases e : (a.all fun f => P.cellsOf f.type != 0) with
  | false => rw [e] at h; simp at h
  | true =>
    rw [e] at h
    simp only [cond_true, TK.struct.injEq] at h
    refine ⟨a, rfl, h.symm, fun f hf => ?_⟩
    have := Array.all_eq_true_iff_forall_mem.1 e f hf
    simpa using this
theorem tk_slice {P : Program} {d : TypeDesc} {e : Nat} (h : tkOf P d = .slice e) : d = .slice e := by
  cases d <;> simp [tkOf] at h
  · rw [h]
  · rename_i a; revert h; cases (a.all fun f => P.cellsOf f.type != 0) <;> simp
theorem tk_array {P : Program} {d : TypeDesc} {n e : Nat} (h : tkOf P d = .array n e) : d = .array n e := by
  cases d <;> simp [tkOf] at h
  · rw [h.1, h.2]
  · rename_i a; revert h; cases (a.all fun f => P.cellsOf f.type != 0) <;> simp
theorem tk_string {P : Program} {d : TypeDesc} (h : tkOf P d = .string) : d = .string := by
  cases d <;> simp [tkOf] at h
  · rfl
  · rename_i a; revert h; cases (a.all fun f => P.cellsOf f.type != 0) <;> simp
theorem tk_int {P : Program} {d : TypeDesc} {k : IntKind} (h : tkOf P d = .int k) : d = .int k := by
  cases d <;> simp [tkOf] at h
  · rw [h]
  · rename_i a; revert h; cases (a.all fun f => P.cellsOf f.type != 0) <;> simp
theorem tk_bool {P : Program} {d : TypeDesc} (h : tkOf P d = .bool) : d = .bool := by
  cases d <;> simp [tkOf] at h
  · rfl
  · rename_i a; revert h; cases (a.all fun f => P.cellsOf f.type != 0) <;> simp
theorem tk_map {P : Program} {d : TypeDesc} {k e : Nat} (h : tkOf P d = .map k e) : d = .map k e := by
  cases d <;> simp [tkOf] at h
  · rw [h.1, h.2]
  · rename_i a; revert h; cases (a.all fun f => P.cellsOf f.type != 0) <;> simp
theorem tk_ptr {P : Program} {d : TypeDesc} {e : Nat} (h : tkOf P d = .ptr e) : d = .pointer e := by
  cases d <;> simp [tkOf] at h
  · rw [h]
  · rename_i a; revert h; cases (a.all fun f => P.cellsOf f.type != 0) <;> simp

/-- A pointer moved on, within its element. -/
def moveAV : AV → Nat → Option AV
  | .loc cs, n => some (.loc (cs.drop n))
  | .ptr b m i o, n => some (.ptr b m i (o + n))
  | _, _ => none

theorem moveAV_rel {H : Know} {ι : Lay} {x r : AV} {n : Nat} {v : Value} (h : moveAV x n = some r) (hv : Rel H ι x v) : ∃ a, v = .pointer (some a) ∧ Rel H ι r (.pointer (some (a.add n))) := by
  cases x <;> simp [moveAV] at h
  · subst h
    obtain ⟨b, off, c, vals, rfl, hb, hv, hr, h1⟩ := hv.loc_inv
    refine ⟨⟨b, off, none⟩, rfl, ?_⟩
    rw [add_mk]
    exact .loc _ _ b (off + n) c (fun j => vals (n + j)) hb (fun j x hj => by rw [List.getElem?_drop] at hj; have := hv _ _ hj; rwa [← Nat.add_assoc] at this)
        (fun j x hj => by rw [List.getElem?_drop] at hj; exact hr _ _ hj) (fun j x hj => by rw [List.getElem?_drop] at hj; exact h1 _ _ hj)
  · subst h
    cases hv with
    | ptrL _ _ _ _ _ r hr hn => exact ⟨_, rfl, by rw [add_mk, Nat.add_assoc]; exact .ptrL _ _ _ _ _ r hr hn⟩
    | ptrS _ _ _ _ _ r a hr hn => exact ⟨_, rfl, .ptrS _ _ _ _ _ r _ hr hn⟩

section
variable {P : Program} {T : Nat → Option TyI} {o : Oper} {e : AEnv} {h : AHeap}

theorem run_underlying' {w : World} {t : TypeId} {d : TypeDesc} (h : P.underlying t = some d) : (underlying t).run P w = .ok d w := by
  simp [underlying, h]

theorem q_fieldAddr (hT : TOk P T) {t : TypeId} {x : Operand} {f : Nat} {p r : AV} {i : TyI} {fs : List (Nat × Nat)} {off u : Nat} (ho : o.op = .fieldAddr t x f) (hx : look e x = some p) (hi : T t = some i) (hk : i.k = .struct fs)
    (hf : fs[f]? = some (off, u)) (hm : moveAV p off = some r) : QLoc P o e h [] r := by
  intro H ι a w s hs h1 h2
  have hx' : look s.env x = some p := by rw [h1 x (by rw [ho]; simp [Op.operands]), hx]
  obtain ⟨info, d, e1, e2, e3, e4, e5, e6⟩ := tyOf_spec (hT _ _ hi)
  obtain ⟨A, rfl, rfl, hz⟩ := tk_struct (P := P) (d := d) (e3 ▸ hk)
  rw [List.getElem?_map, Array.getElem?_toList] at hf
  cases ef : A[f]? with
  | none => rw [ef] at hf; cases hf
  | some g =>
    rw [ef] at hf
    simp only [Option.map_some, Option.some.injEq, Prod.mk.injEq] at hf
    obtain ⟨rfl, rfl⟩ := hf
    obtain ⟨ad, hv, hr⟩ := moveAV_rel hm (look_rel hs hx')
    have hne := hz g (Array.mem_of_getElem? ef)
    cases ei : P.info? g.type with
    | none => simp [Program.cellsOf, ei] at hne
    | some ig =>
      have hne' : ig.size ≠ 0 := by simpa [Program.cellsOf, ei] using hne
      refine ⟨_, hr, ?_⟩
      simp only [execOp, ho, Instr.fieldAt, hv, Instr.sureAddr, Sem.run_bind, Sem.run_pure, Result.andThen_ok, run_underlying' e2, ef, fieldPlace, sizeOf, typeInfo, run_program, ei, hne', if_false]

/-- The element of a slice that is only read. -/
theorem q_index_lst (hT : TOk P T) {t : TypeId} {x y : Operand} {ex : Bool} {es : List (List AV)} {k : IntKind} {n : Int} {i j : TyI} {u : Nat} {cs : List AV} (ho : o.op = .indexAddr t x y) (hx : look e x = some (.lst ex es)) (hy : look e y = some (.int k n))
    (hi : T t = some i) (hk : i.k = .slice u) (hj : T u = some j) (h0 : 0 ≤ n) (hn : es[n.toNat]? = some cs) (hsz : cs.length = j.size) : QLoc P o e h [] (.loc cs) := by
  intro H ι a w s hs h1 h2
  have hx' : look s.env x = some (.lst ex es) := by rw [h1 x (by rw [ho]; simp [Op.operands]), hx]
  have hy' : look s.env y = some (.int k n) := by rw [h1 y (by rw [ho]; simp [Op.operands]), hy]
  obtain ⟨info, d, e1, e2, e3, e4, e5, e6⟩ := tyOf_spec (hT _ _ hi)
  obtain ⟨info', d', e1', e2', e3', e4', e5', e6'⟩ := tyOf_spec (hT _ _ hj)
  have hd := tk_slice (P := P) (d := d) (e3 ▸ hk)
  subst hd
  have hvy : a.eval y = .int k n := (look_rel hs hy').int_inv
  have hvx := look_rel hs hx'
  have hlt : n.toNat < es.length := by
    rcases Nat.lt_or_ge n.toNat es.length with h | h
    · exact h
    · rw [List.getElem?_eq_none h] at hn; cases hn
  generalize hva : a.eval x = va at hvx
  rcases hvx.lst_inv with ⟨rfl, _⟩ | ⟨hne, b, off, cap, sz, c, vals, rfl, hb, hsz', hv, hr, hc1, hex, hcap, hmax⟩
  · simp at hn
  · have hszz : sz = j.size := by rw [← hsz' _ _ hn]; exact hsz
    refine ⟨.pointer (some ⟨b, off + n.toNat * j.size, none⟩), ?_, ?_⟩
    · refine .loc _ _ b _ c (fun q => vals n.toNat q) hb (fun q x hq => ?_) (fun q x hq => hr _ _ _ _ hn hq) (fun q x hq => hc1 _ _ _ _ hn hq)
      rw [← hszz]; exact hv _ _ _ _ hn hq
    · have hcond : 0 ≤ n ∧ n < (es.length : Int) := ⟨h0, by omega⟩
      simp [execOp, ho, Instr.indexAt, hva, hvy, asIntOf, run_underlying' e2, sizeOf, typeInfo, e1', e4', hcond, add_mk]

/-- The element of a row. -/
theorem q_index_ref (hT : TOk P T) {t : TypeId} {x y : Operand} {b m off len : Nat} {p : Bool} {sz : Nat} {es : List (List AV)} {k : IntKind} {n : Int} {i j : TyI} {u : Nat} (ho : o.op = .indexAddr t x y) (hx : look e x = some (.ref b m off len)) (hy : look e y = some (.int k n))
    (hi : T t = some i) (hk : i.k = .slice u) (hj : T u = some j) (hb : h b = some (.row p sz es)) (hm : m = es.length) (hsz : sz = j.size) (h0 : 0 ≤ n) (hn : n < len) : QLoc P o e h [b] (.ptr b m (off + n.toNat) 0) := by
  intro H ι a w s hs h1 h2
  have hx' : look s.env x = some (.ref b m off len) := by rw [h1 x (by rw [ho]; simp [Op.operands]), hx]
  have hy' : look s.env y = some (.int k n) := by rw [h1 y (by rw [ho]; simp [Op.operands]), hy]
  have hb' : s.h b = some (.row p sz es) := by rw [h2 b (by simp), hb]
  obtain ⟨info, d, e1, e2, e3, e4, e5, e6⟩ := tyOf_spec (hT _ _ hi)
  obtain ⟨info', d', e1', e2', e3', e4', e5', e6'⟩ := tyOf_spec (hT _ _ hj)
  have hd := tk_slice (P := P) (d := d) (e3 ▸ hk)
  subst hd
  have hvy : a.eval y = .int k n := (look_rel hs hy').int_inv
  have hvx := look_rel hs hx'
  obtain ⟨r, hl, ho', _⟩ := hs.heap.obj b _ hb' rfl
  obtain ⟨g1, g2, g3, g4, gu, gx⟩ := ho'
  generalize hva : a.eval x = va at hvx
  have hsol : r.csz ≠ 0 := fun h0 => by
    obtain ⟨h1, _⟩ := hvx.ref_dry hl (by omega) h0 (by omega)
    omega
  obtain ⟨hlen, cap, rfl, hlc, hcap, hmax⟩ := hvx.ref_live hl (by omega) hsol
  refine ⟨.pointer (some ⟨r.rb, off * r.sz + n.toNat * j.size, none⟩), ?_, ?_⟩
  · have : off * r.sz + n.toNat * j.size = (off + n.toNat) * r.sz + 0 := by rw [g1, hsz, Nat.add_mul]; omega
    rw [this]
    exact .ptrL _ _ _ _ _ r hl (by omega)
  · have hcond : 0 ≤ n ∧ n < (len : Int) := ⟨h0, hn⟩
    simp [execOp, ho, Instr.indexAt, hva, hvy, asIntOf, run_underlying' e2, sizeOf, typeInfo, e1', e4', hcond, add_mk]

/-- The element of an array that lies in memory. -/
theorem q_index_arr (hT : TOk P T) {t : TypeId} {x y : Operand} {p r : AV} {k : IntKind} {n : Int} {i j : TyI} {len u : Nat} (ho : o.op = .indexAddr t x y) (hx : look e x = some p) (hy : look e y = some (.int k n))
    (hi : T t = some i) (hk : i.k = .array len u) (hj : T u = some j) (h0 : 0 ≤ n) (hn : n < len) (hm : moveAV p (n.toNat * j.size) = some r) : QLoc P o e h [] r := by
  intro H ι a w s hs h1 h2
  have hx' : look s.env x = some p := by rw [h1 x (by rw [ho]; simp [Op.operands]), hx]
  have hy' : look s.env y = some (.int k n) := by rw [h1 y (by rw [ho]; simp [Op.operands]), hy]
  obtain ⟨info, d, e1, e2, e3, e4, e5, e6⟩ := tyOf_spec (hT _ _ hi)
  obtain ⟨info', d', e1', e2', e3', e4', e5', e6'⟩ := tyOf_spec (hT _ _ hj)
  have hd := tk_array (P := P) (d := d) (e3 ▸ hk)
  subst hd
  have hvy : a.eval y = .int k n := (look_rel hs hy').int_inv
  obtain ⟨ad, hva, hr⟩ := moveAV_rel hm (look_rel hs hx')
  have hcond : 0 ≤ n ∧ n < (len : Int) := ⟨h0, hn⟩
  refine ⟨_, hr, ?_⟩
  simp [execOp, ho, Instr.indexAt, hva, hvy, asIntOf, Instr.sureAddr, run_underlying' e2, sizeOf, typeInfo, e1', e4', hcond]

/-- len of what can be seen. -/
def lenAV : AV → Option Nat
  | .lst _ es => some es.length
  | .nil => some 0
  | .ref _ _ _ len => some len
  | .str s => some s.size
  | _ => none

theorem q_len (hT : TOk P T) {t : TypeId} {x : Operand} {p : AV} {n : Nat} {i : TyI} (ho : o.op = .call { callee := .builtin .len, args := #[x], argTypes := #[t] }) (hx : look e x = some p) (hi : T t = some i)
    (hk : (match p with | .str _ => (match i.k with | .string => true | _ => false) | _ => (match i.k with | .slice _ => true | _ => false)) = true) (hn : lenAV p = some n) : QLoc P o e h [] (.int .i64 n) := by
  intro H ι a w s hs h1 h2
  have hx' : look s.env x = some p := by rw [h1 x (by rw [ho]; simp [Op.operands, Call.operands]), hx]
  obtain ⟨info, d, e1, e2, e3, e4, e5, e6⟩ := tyOf_spec (hT _ _ hi)
  have hv := look_rel hs hx'
  generalize hva : a.eval x = va at hv
  refine ⟨.int .i64 n, .int _ _ _, ?_⟩
  have key : (Builtin.len_ #[t] o.type #[va]).run P w = .ok (.int .i64 n) w := by
    have hs' : (∀ z, p ≠ .str z) → ∃ u, d = .slice u := fun hp => by
      cases ek : i.k <;> cases p <;> simp [ek] at hk <;> first | exact ⟨_, tk_slice (P := P) (by rw [← e3, ek])⟩ | exact absurd rfl (hp _)
    cases p with
    | str z =>
      simp only [lenAV, Option.some.injEq] at hn; subst hn
      have hd : d = .string := tk_string (P := P) (by cases ek : i.k <;> simp [ek] at hk; rw [← e3, ek])
      subst hd
      have := hv.str_inv; subst this
      simp [Builtin.len_, run_underlying' e2, goInt]
    | nil =>
      simp only [lenAV, Option.some.injEq] at hn; subst hn
      obtain ⟨u, rfl⟩ := hs' (by simp)
      have := hv.nil_inv; subst this
      simp [Builtin.len_, run_underlying' e2, goInt]
    | lst ex es =>
      simp only [lenAV, Option.some.injEq] at hn; subst hn
      obtain ⟨u, rfl⟩ := hs' (by simp)
      obtain ⟨ad, cap, rfl⟩ := hv.lst_len
      simp [Builtin.len_, run_underlying' e2, goInt]
    | ref b m off len =>
      simp only [lenAV, Option.some.injEq] at hn; subst hn
      obtain ⟨u, rfl⟩ := hs' (by simp)
      obtain ⟨ad, cap, rfl⟩ := hv.ref_len
      simp [Builtin.len_, run_underlying' e2, goInt]
    | _ => simp [lenAV] at hn
  simp only [execOp, ho, resolve, invoke, builtin, Sem.run_bind, Sem.run_pure, Result.andThen_ok, List.map_toArray, List.map_cons, List.map_nil, hva, key]

theorem q_extract {x : Operand} {k : Nat} {vs : List AV} {r : AV} (ho : o.op = .extract x k) (hx : look e x = some (.tup vs)) (hr : vs[k]? = some r) : QLoc P o e h [] r := by
  intro H ι a w s hs h1 h2
  have hx' : look s.env x = some (.tup vs) := by rw [h1 x (by rw [ho]; simp [Op.operands]), hx]
  have hv := look_rel hs hx'
  generalize hva : a.eval x = va at hv
  obtain ⟨us, rfl, hl, hr'⟩ := hv.tup_inv
  have hk : k < us.size := by
    rw [← hl]
    rcases Nat.lt_or_ge k vs.length with h | h
    · exact h
    · rw [List.getElem?_eq_none h] at hr; cases hr
  refine ⟨us[k], hr' k r us[k] hr (by simp [hk]), ?_⟩
  simp [execOp, ho, hva, Instr.extract, hk]

theorem q_nilCheck {x : Operand} {p : AV} (ho : o.op = .nilCheck x) (hx : look e x = some p) (hp : (match p with | .loc _ | .ptr .. => true | _ => false) = true) : QLoc P o e h [] p := by
  intro H ι a w s hs h1 h2
  have hx' : look s.env x = some p := by rw [h1 x (by rw [ho]; simp [Op.operands]), hx]
  have hv := look_rel hs hx'
  refine ⟨a.eval x, hv, ?_⟩
  generalize hva : a.eval x = va at hv
  cases p <;> simp at hp
  · obtain ⟨b, off, c, vals, rfl, _⟩ := hv.loc_inv
    simp [execOp, ho, hva]
  · obtain ⟨ad, rfl⟩ := hv.ptr_some
    simp [execOp, ho, hva]

theorem q_not {x : Operand} {t : TypeId} {b : Bool} (ho : o.op = .unOp .not t x) (hx : look e x = some (.bool b)) : QLoc P o e h [] (.bool (!b)) := by
  intro H ι a w s hs h1 h2
  have hx' : look s.env x = some (.bool b) := by rw [h1 x (by rw [ho]; simp [Op.operands]), hx]
  have hv := look_rel hs hx'
  generalize hva : a.eval x = va at hv
  have := hv.bool_inv; subst this
  exact ⟨_, .bool _ _, by simp [execOp, ho, hva, Op.unary]⟩

theorem q_pick_true {c x y : Operand} {p : AV} (b : Bool) (ho : o.op = .pick c x y) (hc : look e c = some (.bool b)) (hb : b = true) (hx : look e x = some p) : QLoc P o e h [] p := by
  intro H ι a w s hs h1 h2
  have hc' : look s.env c = some (.bool b) := by rw [h1 c (by rw [ho]; simp [Op.operands]), hc]
  have hx' : look s.env x = some p := by rw [h1 x (by rw [ho]; simp [Op.operands]), hx]
  have hv := look_rel hs hc'
  generalize hva : a.eval c = va at hv
  have := hv.bool_inv; subst this
  exact ⟨a.eval x, look_rel hs hx', by simp [execOp, ho, hva, asBool, hb]⟩

theorem q_pick_false {c x y : Operand} {p : AV} (b : Bool) (ho : o.op = .pick c x y) (hc : look e c = some (.bool b)) (hb : b = false) (hx : look e y = some p) : QLoc P o e h [] p := by
  intro H ι a w s hs h1 h2
  have hc' : look s.env c = some (.bool b) := by rw [h1 c (by rw [ho]; simp [Op.operands]), hc]
  have hx' : look s.env y = some p := by rw [h1 y (by rw [ho]; simp [Op.operands]), hx]
  have hv := look_rel hs hc'
  generalize hva : a.eval c = va at hv
  have := hv.bool_inv; subst this
  exact ⟨a.eval y, look_rel hs hx', by simp [execOp, ho, hva, asBool, hb]⟩

theorem q_convInt (hT : TOk P T) {t u : TypeId} {x : Operand} {k k' : IntKind} {n : Int} {i j : TyI} (ho : o.op = .convert t u x) (hx : look e x = some (.int k' n)) (hi : T t = some i) (hj : T u = some j) (hk : j.k = .int k) : QLoc P o e h [] (.int k (k.wrap n)) := by
  intro H ι a w s hs h1 h2
  have hx' : look s.env x = some (.int k' n) := by rw [h1 x (by rw [ho]; simp [Op.operands]), hx]
  obtain ⟨info, d, e1, e2, e3, e4, e5, e6⟩ := tyOf_spec (hT _ _ hi)
  obtain ⟨info', d', e1', e2', e3', e4', e5', e6'⟩ := tyOf_spec (hT _ _ hj)
  have hd := tk_int (P := P) (d := d') (e3' ▸ hk)
  subst hd
  have hv := look_rel hs hx'
  generalize hva : a.eval x = va at hv
  have := hv.int_inv; subst this
  refine ⟨_, .int _ _ _, ?_⟩
  simp only [execOp, ho, hva, convert, Sem.run_bind, run_underlying' e2, run_underlying' e2', Result.andThen_ok, Conv.intToInt, Sem.run_pure]

end
end Go.Proofs.Ytidfabbnobipkaa.Sv
