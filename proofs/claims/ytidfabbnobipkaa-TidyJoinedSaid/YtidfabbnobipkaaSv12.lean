/-
  CALLS: contracts, how they are proved of a body, and used at a call; what changes in thought alone: own work, over no program.
-/
import Derived.Test.YtidfabbnobipkaaSv11
namespace Go.Proofs.Ytidfabbnobipkaa.Sv
open Go
set_option linter.unusedVariables false
set_option linter.unusedSimpArgs false

def RelAll (H : Know) (ι : Lay) (xs : List AV) (vs : Array Value) : Prop := xs.length = vs.size ∧ ∀ (j : Nat) (x : AV) (v : Value), xs[j]? = some x → vs[j]? = some v → Rel H ι x v

/-- A call that may look at the heap, and change it. -/
def ACall (P : Program) (f : FuncId) (args : List AV) (h : AHeap) (R : AV → AHeap → Prop) : Prop :=
  ∀ (H : Know) (ι : Lay) (w : World) (vs : Array Value), RelAll H ι args vs → HeapRel H ι h w →
    Calls P f vs w (fun e w' => ∃ v r h' H' ι', e = .returned v ∧ R r h' ∧ Rel H' ι' r v ∧ HeapRel H' ι' h' w' ∧ Step H ι h w H' ι' h' w')

structure Grow (H : Know) (w : World) (H' : Know) (w' : World) : Prop where
  size : w.heap.size ≤ w'.heap.size
  os : w'.os = w.os
  out : w'.output = w.output
  keep : ∀ rb, rb < w.heap.size → w'.heap[rb]? = w.heap[rb]?
  kle : KLe H H'
  knew : ∀ b, H' b ≠ none → H b ≠ none ∨ w.heap.size ≤ b
  know : ∀ b c, H' b = some c → ∃ T fr, w'.heap[b]? = some (.cells c T fr)

def KnowOk (H : Know) (w : World) : Prop := ∀ b c, H b = some c → ∃ T fr, w.heap[b]? = some (.cells c T fr)

/-- A call of plain data, that comes to plain data. -/
def APure (P : Program) (f : FuncId) (args : List AV) (R : AV → Prop) : Prop :=
  ∀ (H : Know) (w : World) (vs : Array Value), RelAll H noLay args vs → KnowOk H w →
    Calls P f vs w (fun e w' => ∃ v r H', e = .returned v ∧ R r ∧ Rel H' noLay r v ∧ Grow H w H' w')

theorem APure.mono {P : Program} {f : FuncId} {args : List AV} {R R' : AV → Prop} (h : APure P f args R) (hr : ∀ r, R r → R' r) : APure P f args R' :=
  fun H w vs h1 h2 => (h H w vs h1 h2).mono fun e w' ⟨v, r, H', e1, e2, e3⟩ => ⟨v, r, H', e1, hr _ e2, e3⟩
theorem ACall.mono {P : Program} {f : FuncId} {args : List AV} {h : AHeap} {R R' : AV → AHeap → Prop} (hc : ACall P f args h R) (hr : ∀ r h', R r h' → R' r h') : ACall P f args h R' :=
  fun H ι w vs h1 h2 => (hc H ι w vs h1 h2).mono fun e w' ⟨v, r, h', H', ι', e1, e2, e3⟩ => ⟨v, r, h', H', ι', e1, hr _ _ e2, e3⟩

/-! ### of a body -/
def argEnv (args : List AV) : AEnv := fun t => args[t]?

def resAV (T : Nat → Option TyI) (s : AState) : ResultVar → AV → Prop
  | .tmp t, x => s.env t = some x
  | .cell a t, x => ∃ p i R cs, s.env a = some p ∧ T t = some i ∧ PtsTo s.h p R cs ∧ loadAV i cs = some x

def resAll (T : Nat → Option TyI) (s : AState) : List ResultVar → List AV → Prop
  | [], [] => True
  | r :: rs, x :: xs => resAV T s r x ∧ resAll T s rs xs
  | _, _ => False

def packAV : List AV → AV
  | [x] => x
  | xs => .tup xs

section
variable {P : Program} {T : Nat → Option TyI}

def resSem (tmps : Array Value) : ResultVar → Sem Value
  | .tmp t => pure (tmps.getD t undef)
  | .cell c t => do loadVar t (← asAddr (tmps.getD c undef))

theorem results_eq (fn : Func) (tmps : Array Value) : results fn tmps = (do
    let vs ← fn.results.mapM (resSem tmps)
    pure (if h : vs.size = 1 then vs[0] else .tuple vs)) := by
  unfold results
  congr 1

theorem run_resAV (hT : TOk P T) {H : Know} {ι : Lay} {s : AState} {a : Act} {w : World} (hs : Sim H ι s a w) {r : ResultVar} {x : AV} (h : resAV T s r x) :
    ∃ v, Rel H ι x v ∧ (resSem a.tmps r).run P w = .ok v w := by
  cases r with
  | tmp t =>
    obtain ⟨v, h1, h2⟩ := hs.env t x h
    exact ⟨v, h2, by simp [resSem, h1]⟩
  | cell c t =>
    obtain ⟨p, i, R, cs, h1, h2, h3, h4⟩ := h
    obtain ⟨v, e1, e2⟩ := hs.env c p h1
    obtain ⟨b, off, rfl, hc⟩ := h3.cells hs.heap e2
    obtain ⟨v', hr, hrun⟩ := run_loadVar (P := P) (hT _ _ h2) hc h4
    exact ⟨v', hr, by simp [resSem, e1, asAddr, hrun]⟩

theorem run_resAll (hT : TOk P T) {H : Know} {ι : Lay} {s : AState} {a : Act} {w : World} (hs : Sim H ι s a w) : ∀ {rs : List ResultVar} {xs : List AV}, resAll T s rs xs →
    ∃ vs : List Value, xs.length = vs.length ∧ (∀ (j : Nat) (x : AV) (v : Value), xs[j]? = some x → vs[j]? = some v → Rel H ι x v) ∧
      (rs.mapM (resSem a.tmps)).run P w = .ok vs w
  | [], [], _ => ⟨[], rfl, fun j x v h => by simp at h, by simp⟩
  | r :: rs, x :: xs, h => by
    obtain ⟨h1, h2⟩ := h
    obtain ⟨v, e1, e2⟩ := run_resAV hT hs h1
    obtain ⟨vs, f1, f2, f3⟩ := run_resAll hT hs h2
    refine ⟨v :: vs, by simp [f1], fun j y u g1 g2 => ?_, ?_⟩
    · cases j with
      | zero => simp at g1 g2; subst g1; subst g2; exact e1
      | succ j => simp at g1 g2; exact f2 j y u g1 g2
    · rw [List.mapM_cons, Sem.run_bind]
      rw [e2]
      simp only [Result.andThen_ok, Sem.run_bind, f3, Sem.run_pure]
  | [], _ :: _, h => h.elim
  | _ :: _, [], h => h.elim

theorem run_results (hT : TOk P T) {H : Know} {ι : Lay} {s : AState} {a : Act} {w : World} (hs : Sim H ι s a w) {fn : Func} {xs : List AV} (h : resAll T s fn.results.toList xs) :
    ∃ v, Rel H ι (packAV xs) v ∧ (results fn a.tmps).run P w = .ok v w := by
  obtain ⟨vs, h1, h2, h3⟩ := run_resAll hT hs h
  have hm : (fn.results.mapM (resSem a.tmps)).run P w = .ok vs.toArray w := by
    rw [Array.mapM_eq_mapM_toList, Sem.run_map, h3]
    rfl
  cases xs with
  | nil =>
    have hv : vs = [] := List.eq_nil_of_length_eq_zero (by simpa using h1.symm)
    subst hv
    refine ⟨.tuple #[], .tup _ _ _ rfl (fun j x v h => by simp at h), ?_⟩
    rw [results_eq, Sem.run_bind, hm]
    rfl
  | cons x xs =>
    cases xs with
    | nil =>
      cases vs with
      | nil => simp at h1
      | cons v vs =>
        have hv : vs = [] := List.eq_nil_of_length_eq_zero (by simpa using h1.symm)
        subst hv
        refine ⟨v, h2 0 x v (by simp) (by simp), ?_⟩
        rw [results_eq, Sem.run_bind, hm]
        rfl
    | cons y ys =>
      refine ⟨.tuple vs.toArray, .tup _ _ _ (by simpa using h1) (fun j x v g1 g2 => h2 j x v g1 (by simpa using g2)), ?_⟩
      rw [results_eq, Sem.run_bind, hm]
      have hsz : ¬ vs.length = 1 := by simp at h1; omega
      simp [hsz]

/-- What is asked where the body ends. -/
def Ends (T : Nat → Option TyI) (fn : Func) (R : AV → AHeap → Prop) : Exit → AState → Prop
  | .normal, s | .ret, s => ∃ xs, resAll T s fn.results.toList xs ∧ R (packAV xs) s.h
  | _, _ => False

theorem ACall.of_body (hT : TOk P T) {f : FuncId} {fn : Func} {c : Code} {args : List AV} {h : AHeap} {R : AV → AHeap → Prop} (hf : P.funcs[f]? = some fn) (hb : fn.body = some c) {n : Nat} (hn : args.length + (fn.ntmps - args.length) = n)
    (hg : AGo P c ⟨n, argEnv args, h⟩ (Ends T fn R)) : ACall P f args h R := by
  intro H ι w vs ha hr
  refine calls_of_wp hf hb ?_
  have hs : Sim H ι ⟨n, argEnv args, h⟩ { tmps := vs ++ Array.replicate (fn.ntmps - vs.size) undef, defers := [] } w := by
    refine ⟨by simp [← ha.1, hn], rfl, fun t x hx => ?_, hr⟩
    have hlt : t < vs.size := by
      rw [← ha.1]
      rcases Nat.lt_or_ge t args.length with h | h
      · exact h
      · simp only [argEnv] at hx; rw [List.getElem?_eq_none h] at hx; cases hx
    obtain ⟨v, hv⟩ := getElem?_some_of_lt hlt
    exact ⟨v, by simp only; rw [Array.getElem?_append_left hlt]; exact hv, ha.2 t x v hx hv⟩
  refine wp_mono (hg H ι _ w hs) fun e a' w' hp => ?_
  obtain ⟨s', H', ι', q, r, t⟩ := hp
  have key : (∃ xs, resAll T s' fn.results.toList xs ∧ R (packAV xs) s'.h) → a'.defers = [] ∧ ∃ v, (results fn a'.tmps).run P w' = .ok v w' ∧ ∃ v' r h' H' ι', Ending.returned v = .returned v' ∧ R r h' ∧ Rel H' ι' r v' ∧ HeapRel H' ι' h' w' ∧ Step H ι h w H' ι' h' w' := fun ⟨xs, h1, h2⟩ => by
    obtain ⟨v, e1, e2⟩ := run_results hT r h1
    exact ⟨r.d, v, e2, v, _, _, H', ι', rfl, h2, e1, r.heap, t⟩
  cases e with
  | normal => exact key q
  | ret => exact key q
  | _ => exact q.elim

theorem heapRel_new {H : Know} {w : World} (h : KnowOk H w) : HeapRel H noLay hNew w where
  know := h
  free := fun _ _ => rfl
  obj := fun b o e ea => by cases e; cases ea
  inj := fun b b' o o' r r' e ea => by cases e; cases ea

theorem APure.of_body (hT : TOk P T) {f : FuncId} {fn : Func} {c : Code} {args : List AV} {R : AV → Prop} (hf : P.funcs[f]? = some fn) (hb : fn.body = some c) {n : Nat} (hn : args.length + (fn.ntmps - args.length) = n)
    (hg : AGo P c ⟨n, argEnv args, hNew⟩ (Ends T fn fun r _ => R r ∧ r.isPure = true)) : APure P f args R := by
  intro H w vs ha hk
  refine (ACall.of_body hT hf hb hn hg H noLay w vs ha (heapRel_new hk)).mono fun e w' hx => ?_
  obtain ⟨v, r, h', H', ι', rfl, ⟨h1, h2⟩, h3, h4, h5⟩ := hx
  have hno : ∀ rb, ¬ Owned hNew noLay rb := fun rb ho => by obtain ⟨b, o, r, e1, e2, e3, _⟩ := ho; cases e3
  exact ⟨v, r, H', rfl, h1, pure_rel h2 h3, ⟨h5.size, h5.os, h5.out, fun rb hlt => h5.keep rb hlt (hno rb), h5.kle, fun b hb => (h5.knew b hb).imp id fun h => h.resolve_right (hno b), h4.know⟩⟩

/-! ### at a call -/
theorem run_callFunc {w : World} {f : FuncId} {fn : Func} (hf : P.funcs[f]? = some fn) (hn : (fn.name == "runtime.NumGoroutine") = false) (hb : fn.body.isSome = true) (args : Array Value) : (callFunc f args).run P w = .ok (.enter f args) w := by
  have hb' : fn.body.isNone = false := by cases e : fn.body <;> simp [e] at hb ⊢
  simp only [callFunc, Sem.run_bind, run_program, Result.andThen_ok, hf, hn, Bool.false_eq_true, if_false, hb', Sem.run_pure]

variable {o : Oper} {e : AEnv} {h : AHeap}

/-- The operands, as values. -/
def lookAll (e : AEnv) : List Operand → Option (List AV)
  | [] => some []
  | x :: xs => match look e x, lookAll e xs with
    | some y, some ys => some (y :: ys)
    | _, _ => none

theorem lookAll_rel {H : Know} {ι : Lay} {s : AState} {a : Act} {w : World} (hs : Sim H ι s a w) : ∀ {l : List Operand} {xs : List AV}, lookAll s.env l = some xs → xs.length = l.length ∧ ∀ (j : Nat) (x : AV) (v : Value), xs[j]? = some x → (l.map a.eval)[j]? = some v → Rel H ι x v
  | [], xs, h => by simp [lookAll] at h; subst h; exact ⟨rfl, fun j x v h => by simp at h⟩
  | y :: l, xs, h => by
    unfold lookAll at h
    split at h
    · rename_i x ys h1 h2
      simp at h; subst h
      obtain ⟨i1, i2⟩ := lookAll_rel hs h2
      refine ⟨by simp [i1], fun j z v g1 g2 => ?_⟩
      cases j with
      | zero => simp at g1 g2; subst g1; subst g2; exact look_rel hs h1
      | succ j => simp only [List.getElem?_cons_succ, List.map_cons] at g1 g2; exact i2 j z v g1 g2
    · cases h

theorem lookAll_agree {e e' : AEnv} : ∀ {l : List Operand}, (∀ x ∈ l, look e' x = look e x) → lookAll e' l = lookAll e l
  | [], _ => rfl
  | x :: l, h => by
    unfold lookAll
    rw [h x (by simp), lookAll_agree (l := l) (fun y hy => h y (by simp [hy]))]

theorem relAll_map {H : Know} {ι : Lay} {s : AState} {a : Act} {w : World} (hs : Sim H ι s a w) {l : Array Operand} {xs : List AV} (h : lookAll s.env l.toList = some xs) : RelAll H ι xs (l.map a.eval) := by
  obtain ⟨h1, h2⟩ := lookAll_rel hs h
  exact ⟨by simp [h1], fun j x v g1 g2 => h2 j x v g1 (by simpa using g2)⟩

theorem knowOk_of {H : Know} {ι : Lay} {w : World} (hr : HeapRel H ι h w) : KnowOk H w := hr.know

theorem HeapRel.grown {H H' : Know} {ι : Lay} {w w' : World} (hr : HeapRel H ι h w) (g : Grow H w H' w') : HeapRel H' ι h w' ∧ Step H ι h w H' ι h w' := by
  refine ⟨⟨g.know, hr.free, fun b o h1 h2 => ?_, hr.inj⟩, ⟨g.size, g.os, g.out, fun rb hlt _ => g.keep rb hlt, g.kle, fun b hb => (g.knew b hb).imp id .inl, LLe.refl _, fun _ _ => rfl, fun _ _ h _ => .inl h, fun _ h => h⟩⟩
  obtain ⟨r, e1, e2, e3⟩ := hr.obj b o h1 h2
  refine ⟨r, e1, e2.mono g.kle (LLe.refl _) (fun hsol => g.keep _ (hr.lt ⟨b, o, r, h1, h2, e1, hsol, rfl⟩)), fun hsol => ?_⟩
  have hlt := hr.lt ⟨b, o, r, h1, h2, e1, hsol, rfl⟩
  cases hh : H' r.rb with
  | none => rfl
  | some c =>
    rcases g.knew r.rb (by rw [hh]; simp) with h | h
    · exact absurd (e3 hsol) h
    · omega

/-- A call by a contract of plain data. -/
theorem o_pure {f : FuncId} {fn : Func} {args : Array Operand} {tys : Array TypeId} {xs : List AV} {r : AV} (ho : o.op = .call { callee := .value (.func f), args := args, argTypes := tys }) (hf : P.funcs[f]? = some fn) (hn : (fn.name == "runtime.NumGoroutine") = false) (hb : fn.body.isSome = true)
    (hx : lookAll e args.toList = some xs) (hp : xs.all AV.isPure = true) (hc : APure P f xs (fun r' => r' = r)) : OLoc P o e h [] [] (some r) := by
  intro H ι a w s Q hs g1 g2
  have hx' : lookAll s.env args.toList = some xs := by
    rw [lookAll_agree (e := e) (fun x hx => g1 x (by rw [ho]; simp [Op.operands, Call.operands]; exact .inr (by simpa using hx)))]; exact hx
  have hra := relAll_map hs hx'
  have hra' : RelAll H noLay xs (args.map a.eval) := ⟨hra.1, fun j x v h1 h2 => pure_rel (List.all_eq_true.1 hp x (List.mem_of_getElem? h1)) (hra.2 j x v h1 h2)⟩
  have hcall := hc H w _ hra' hs.heap.know
  have hexec : (execOp a.eval o).run P w = .ok (.enter f (args.map a.eval)) w := by
    simp [execOp, ho, resolve, Act.eval, Deferred.ofValue, invoke, run_callFunc hf hn hb]
  unfold Oper.wp
  rw [hexec]
  refine hcall.mono fun en w' hh => ?_
  obtain ⟨v, r', H', rfl, rfl, k1, k2⟩ := hh
  obtain ⟨u1, u2⟩ := hs.heap.grown k2
  exact ⟨v, H', ι, rfl, (fun x ex => by cases ex; exact k1.mono (KLe.refl _) (LLe.none _)), u1, u2⟩

end
end Go.Proofs.Ytidfabbnobipkaa.Sv
