/-
  FUNCTION VALUES; SLICES THAT ARE NOT AT THEIR ROW'S END; CHANGES IN THOUGHT OF WHAT ROWS HOLD: own work, over no program.
-/
import Derived.Test.YtidfabbnobipkaaSv22
import Derived.Test.YtidfabbnobipkaaSv19
namespace Go.Proofs.Ytidfabbnobipkaa.Sv
open Go
set_option linter.unusedVariables false
set_option linter.unusedSimpArgs false

section
variable {P : Program} {T : Nat → Option TyI} {o : Oper} {e : AEnv} {h : AHeap}

theorem q_makeFunc {f : Fn} {first captured : Array Operand} {xs cs : List AV} (ho : o.op = .makeFunc f first captured) (hx : lookAll e first.toList = some xs) (hc : lookAll e captured.toList = some cs) : QLoc P o e h [] (.fn f xs cs) := by
  intro H ι a w s hs g1 g2
  have hx' : lookAll s.env first.toList = some xs := by
    rw [lookAll_agree (e := e) (fun x hx => g1 x (by rw [ho]; simp [Op.operands]; exact .inl (by simpa using hx)))]; exact hx
  have hc' : lookAll s.env captured.toList = some cs := by
    rw [lookAll_agree (e := e) (fun x hx => g1 x (by rw [ho]; simp [Op.operands]; exact .inr (by simpa using hx)))]; exact hc
  have h1 := relAll_map hs hx'
  have h2 := relAll_map hs hc'
  refine ⟨.func f (first.map a.eval) (captured.map a.eval), .fn _ _ _ _ _ _ h1.1 h2.1 h1.2 h2.2, ?_⟩
  simp only [execOp, ho, Instr.makeFunc, Sem.run_bind, Sem.run_pure, Result.andThen_ok]

theorem relAll_append {H : Know} {ι : Lay} {xs ys : List AV} {us vs : Array Value} (h1 : RelAll H ι xs us) (h2 : RelAll H ι ys vs) : RelAll H ι (xs ++ ys) (us ++ vs) := by
  refine ⟨by simp [h1.1, h2.1], fun j x v g1 g2 => ?_⟩
  by_cases hj : j < xs.length
  · rw [List.getElem?_append_left hj] at g1
    rw [Array.getElem?_append_left (by rw [← h1.1]; exact hj)] at g2
    exact h1.2 j x v g1 g2
  · rw [List.getElem?_append_right (by omega)] at g1
    rw [Array.getElem?_append_right (by rw [← h1.1]; omega), ← h1.1] at g2
    exact h2.2 _ x v g1 g2

/-- A call of a function value by a contract that tells what becomes of the rows of L. -/
theorem o_callF {f : FuncId} {fn : Func} {x : Operand} {args : Array Operand} {tys : Array TypeId} {fs xs cs : List AV} {r : AV} {hc hw : AHeap} (L : List Nat) (W : List (Nat × AObj)) (ho : o.op = .call { callee := .value x, args := args, argTypes := tys }) (hfn : look e x = some (.fn (.func f) fs cs)) (hf : P.funcs[f]? = some fn) (hn : (fn.name == "runtime.NumGoroutine") = false) (hb : fn.body.isSome = true)
    (hx : lookAll e args.toList = some xs) (hxa : (fs ++ xs ++ cs).all (AV.avoid (mem L)) = true) (hL : AllL L fun b => ∃ q, h b = some q ∧ q.avoid (mem L) = true) (hW : W.all (fun p => mem L p.1) = true) (hres' : hres h L = hc)
    (hk : AllL L fun b => ∃ q, hw b = some q ∧ hputs h W b = some q ∧ q.avoid (mem L) = true) (hra : r.avoid (mem L) = true)
    (hcall : ACall P f (fs ++ xs ++ cs) hc (fun r' h' => r' = r ∧ HSub hw h')) : OLoc P o e h L W (some r) := by
  intro H ι a w s Q hs g1 g2
  have hx' : lookAll s.env args.toList = some xs := by
    rw [lookAll_agree (e := e) (fun x hx => g1 x (by rw [ho]; simp [Op.operands, Call.operands]; exact .inr (by simpa using hx)))]; exact hx
  have hfn' : look s.env x = some (.fn (.func f) fs cs) := by rw [g1 x (by rw [ho]; simp [Op.operands, Call.operands]), hfn]
  have hvf := look_rel hs hfn'
  obtain ⟨us, vs, hve, k1, k2, k3, k4⟩ := hvf.fn_inv
  have hraa := relAll_append (relAll_append ⟨k1, k3⟩ (relAll_map hs hx')) ⟨k2, k4⟩
  have hra' : RelAll H (lcut ι (mem L)) (fs ++ xs ++ cs) (us ++ args.map a.eval ++ vs) := ⟨hraa.1, fun j x v h1 h2 => avoid_rel (hraa.2 j x v h1 h2) (all_get hxa h1)⟩
  have hLs : ∀ b ∈ L, ∃ q, s.h b = some q ∧ q.avoid (mem L) = true := fun b hb => by rw [g2 b hb]; exact hL.get b hb
  have hres2 : hres s.h L = hc := by
    rw [← hres']
    funext b
    unfold hres
    cases e : mem L b with
    | true => simp only [cond_true]; exact g2 b (mem_iff.1 e)
    | false => rfl
  have hrc : HeapRel H (lcut ι (mem L)) (hres s.h L) w := by
    have key : ∀ b o, hres s.h L b = some o → o.alive = true → b ∈ L ∧ s.h b = some o := fun b o h1 h2 => by
      unfold hres at h1
      cases e : mem L b with
      | true => rw [e] at h1; exact ⟨mem_iff.1 e, h1⟩
      | false => rw [e] at h1; cases h1; cases h2
    refine ⟨hs.heap.know, fun b hb => ?_, fun b o h1 h2 => ?_, fun b b' o o' r r' h1 h2 h3 h4 h5 h6 => ?_⟩
    · unfold hres at hb
      unfold lcut
      cases e : mem L b with
      | true => rw [e] at hb; exact hs.heap.free b hb
      | false => rfl
    · obtain ⟨k1, k2⟩ := key b o h1 h2
      obtain ⟨r, r1, r2, r3⟩ := hs.heap.obj b o k2 h2
      obtain ⟨q, q1, q2⟩ := hLs b k1
      rw [k2] at q1; cases q1
      exact ⟨r, by rw [lcut_lt (mem_iff.2 k1)]; exact r1, objOk_cut r2 q2, r3⟩
    · exact hs.heap.inj b b' o o' r r' (key b o h1 h2).2 h2 (key b' o' h3 h4).2 h4 (lcut_some h5) (lcut_some h6)
  have hcalls := hcall H (lcut ι (mem L)) w _ hra' (hres2 ▸ hrc)
  have hexec : (execOp a.eval o).run P w = .ok (.enter f (us ++ args.map a.eval ++ vs)) w := by
    simp only [execOp, ho, resolve, hve, Deferred.ofValue, invoke, Sem.run_bind, Sem.run_pure, Result.andThen_ok, run_callFunc hf hn hb]
  unfold Oper.wp
  rw [hexec]
  refine hcalls.mono fun en w' hh => ?_
  obtain ⟨v, r', h', H', ι', rfl, ⟨rfl, hsub⟩, k1, k2, k3⟩ := hh
  have hk' : ∀ b ∈ L, ∃ q, h' b = some q ∧ hputs s.h W b = some q ∧ q.avoid (mem L) = true := fun b hb => by
    obtain ⟨q, q1, q2, q3⟩ := hk.get b hb
    exact ⟨q, hsub b q q1, by rw [hputs_agree (g2 b hb)]; exact q2, q3⟩
  obtain ⟨u1, u2⟩ := call_mix hs.heap hLs (fun p hp => mem_iff.1 (List.all_eq_true.1 hW p hp)) hk' k2 (hres2.symm ▸ k3)
  refine ⟨v, H', _, rfl, fun x ex => ?_, u1, u2⟩
  cases ex
  refine (avoid_rel k1 hra).mono (KLe.refl _) fun b r e => ?_
  by_cases hb : b ∈ L
  · exact ⟨r, by simp only [lmix, mem_iff.2 hb, cond_true]; exact lcut_some e, .inl rfl⟩
  · have : mem L b = false := by cases e : mem L b with | false => rfl | true => exact absurd (mem_iff.1 e) hb
    simp only [lcut, this, cond_false] at e; cases e

/-- x[:m] of a slice from its row's beginning on -/
theorem q_slice_ref (hT : TOk P T) {t : TypeId} {x y : Operand} {b n len m : Nat} {p : Bool} {sz : Nat} {es : List (List AV)} {i j : TyI} {u : Nat} {k : IntKind} {z : Int} (ho : o.op = .slice t x none (some y) none) (hx : look e x = some (.ref b n 0 len)) (hy : look e y = some (.int k z)) (ht : T t = some i) (hk : i.k = .slice u) (hj : T u = some j)
    (hb : h b = some (.row p sz es)) (hn : n = es.length) (hz : z = (m : Int)) (hm : m ≤ len) : QLoc P o e h [b] (.ref b n 0 m) := by
  intro H ι a w s hs g1 g2
  have hx' : look s.env x = some (.ref b n 0 len) := by rw [g1 x (by rw [ho]; simp [Op.operands]), hx]
  have hy' : look s.env y = some (.int k z) := by rw [g1 y (by rw [ho]; simp [Op.operands]), hy]
  have hb' : s.h b = some (.row p sz es) := by rw [g2 b (by simp), hb]
  subst hz
  obtain ⟨info, d, e1, e2, e3, e4, e5, e6⟩ := tyOf_spec (hT _ _ ht)
  obtain ⟨info', d', e1', e2', e3', e4', e5', e6'⟩ := tyOf_spec (hT _ _ hj)
  have hd := tk_slice (P := P) (d := d) (e3 ▸ hk)
  subst hd
  have hvx := look_rel hs hx'
  have hvy := (look_rel hs hy').int_inv
  generalize hva : a.eval x = va at hvx
  obtain ⟨r, hl, ⟨r1, r2, r3, r4, r5, r6⟩, r7⟩ := hs.heap.obj b _ hb' rfl
  have hrun : ∀ (ad : Option Addr) (cap : Nat), m ≤ cap → va = .slice ad len cap → (execOp a.eval o).run P w = .ok (.value (.slice (if cap = 0 then ad else ad.map (·.add (0 * j.size))) (m - 0) (cap - 0))) w := fun ad cap hcap hv => by
    simp only [execOp, ho, hva, hv, hvy, Instr.sliceAt, Instr.slice, Option.map_none, Option.map_some, Sem.run_bind, run_underlying' e2, Result.andThen_ok, run_isz e1', e4', Sem.run_pure]
    simp [Instr.sliceBounds, Instr.sliceBound, asIntOf, hcap]
  by_cases hsol : r.csz = 0
  · obtain ⟨hl0, ad, rfl, hsp⟩ := hvx.ref_dry hl (by omega) hsol (by omega)
    subst hl0
    obtain rfl : m = 0 := by omega
    refine ⟨_, ?_, hrun ad 0 (Nat.le_refl _) rfl⟩
    simpa using hvx
  · obtain ⟨hlen, cap, rfl, hlc, hcap, hmax⟩ := hvx.ref_live hl (by omega) hsol
    refine ⟨_, ?_, hrun _ cap (by omega) rfl⟩
    have := Rel.refL (H := H) ι b n 0 m cap r hl (by omega) (by omega) (by omega) hcap hmax
    have hadd : (if cap = 0 then some (⟨r.rb, 0 * r.sz, none⟩ : Addr) else (some (⟨r.rb, 0 * r.sz, none⟩ : Addr)).map (·.add (0 * j.size))) = some ⟨r.rb, 0 * r.sz, none⟩ := by
      split
      · rfl
      · simp [Addr.add]
    rw [hadd]
    simpa using this

/-- put in the place behind a slice that is not its row's end -/
theorem o_appendIn (hT : TOk P T) {t t' : TypeId} {x y : Operand} {i i' j : TyI} {u u' : Nat} {b n len : Nat} {p : Bool} {sz : Nat} {es : List (List AV)} {cs2 : List AV} {q : AV} {R : List Nat}
    (ho : o.op = .call { callee := .builtin .append, args := #[x, y], argTypes := #[t, t'] }) (hx : look e x = some (.ref b n 0 len)) (hy : look e y = some q) (hi : T t = some i) (hk : i.k = .slice u) (hj : T u = some j) (hi' : T t' = some i') (hk' : i'.k = .slice u')
    (hb : h b = some (.row p sz es)) (hn : n = es.length) (hlt : len < n) (hsz : sz = j.size) (hp : 0 < j.size)
    (hsrc : SrcOf h q R [cs2]) (hu2 : cs2.length = sz) (hpure : p = true → cs2.all AV.isPure1 = true) :
    OLoc P o e h (b :: R) [(b, .row p sz (es.set len cs2))] (some (.ref b n 0 (len + 1))) := by
  intro H ι a w s Q hs g1 g2
  have hx' : look s.env x = some (.ref b n 0 len) := by rw [g1 x (by rw [ho]; simp [Op.operands, Call.operands]), hx]
  have hy' : look s.env y = some q := by rw [g1 y (by rw [ho]; simp [Op.operands, Call.operands]), hy]
  have hb' : s.h b = some (.row p sz es) := by rw [g2 b (by simp), hb]
  have hsrc' := hsrc.agree (h' := s.h) (fun c hc => g2 c (by simp [hc]))
  obtain ⟨info, d, e1, e2, e3, e4, e5, e6⟩ := tyOf_spec (hT _ _ hi)
  obtain ⟨infou, du, f1, f2, f3, f4, f5, f6⟩ := tyOf_spec (hT _ _ hj)
  obtain ⟨info', d', e1', e2', e3', e4', e5', e6'⟩ := tyOf_spec (hT _ _ hi')
  have hd := tk_slice (P := P) (d := d) (e3 ▸ hk)
  subst hd
  have hd' := tk_slice (P := P) (d := d') (e3' ▸ hk')
  subst hd'
  subst hsz; subst hn
  obtain ⟨r, hl, ⟨r1, r2, r3, r4, r5, r6⟩, r7⟩ := hs.heap.obj b _ hb' rfl
  have hvx := look_rel hs hx'
  have hvy := look_rel hs hy'
  generalize hva : a.eval x = va at hvx
  generalize hvb : a.eval y = vb at hvy
  have hexec : ∀ (v : Value) (w' : World), (Builtin.append_ #[t, t'] o.type #[va, vb]).run P w = .ok v w' → (execOp a.eval o).run P w = .ok (.value v) w' := fun v w' hrun => by
    simp only [execOp, ho, resolve, invoke, builtin, Sem.run_bind, Sem.run_pure, Result.andThen_ok, List.map_toArray, List.map_cons, List.map_nil, hva, hvb, hrun]
  obtain ⟨news, hsrcw, hnews⟩ := src_of hs.heap hsrc' hvy e2' hp (by intro cs h; simp at h; subst h; exact hu2) w rfl
  rw [← f4] at hsrcw
  have hnl : news.length = j.size := by rw [hsrcw.newsLen, f4]; simp
  have hsol : r.csz ≠ 0 := fun h0 => by
    have : 0 < es.length * j.size := Nat.mul_pos (by omega) hp
    omega
  obtain ⟨hlen, cap, hvv, hlc, hcap, hmax⟩ := hvx.ref_live hl (by omega) hsol
  obtain ⟨c, TT, w1, w2, w3⟩ := r6 hsol
  simp only [Nat.zero_mul, Nat.zero_add] at hcap hvv
  have hcs : c.size = cap * j.size := by rw [w2, ← hcap, r1]
  have hmul : (len + 1) * j.size ≤ es.length * j.size := Nat.mul_le_mul_right _ (by omega)
  have hmul' : (len + 1) * j.size = len * j.size + j.size := by rw [Nat.add_mul, Nat.one_mul]
  have hroom : len + 1 ≤ cap := by
    refine Nat.le_of_mul_le_mul_right (c := j.size) ?_ hp
    rw [← hcs, w2]; omega
  have hfit : len * infou.size + news.length ≤ c.size := by rw [hnl, f4, w2]; omega
  have hrun := run_append_room_row (P := P) (w := w) t t' o.type u infou e2 f1 r.rb len cap c TT w1 vb 1 news hsrcw hroom hfit
  rw [f4] at hrun hfit
  generalize hC : (c.toList.take (len * j.size) ++ news ++ c.toList.drop (len * j.size + news.length)).toArray = C at *
  have hCs : C.size = c.size := by rw [← hC]; simp; omega
  have hget : ∀ k : Nat, C[k]? = if k < len * j.size then c[k]? else if k < len * j.size + j.size then news[k - len * j.size]? else c[k]? := fun k => by
    rw [← hC]
    simp only [List.getElem?_toArray]
    have hm : (c.toList.take (len * j.size)).length = len * j.size := by simp; omega
    by_cases h1 : k < len * j.size
    · rw [if_pos h1, List.getElem?_append_left (by rw [List.length_append, hm]; omega), List.getElem?_append_left (by rw [hm]; exact h1), List.getElem?_take_of_lt h1, Array.getElem?_toList]
    · rw [if_neg h1]
      by_cases h2 : k < len * j.size + j.size
      · rw [if_pos h2, List.getElem?_append_left (by rw [List.length_append, hm, hnl]; exact h2), List.getElem?_append_right (by rw [hm]; omega), hm]
      · rw [if_neg h2, List.getElem?_append_right (by rw [List.length_append, hm, hnl]; omega), List.length_append, hm, hnl, List.getElem?_drop, Array.getElem?_toList]
        congr 1; omega
  have hll : LLe ι (lput ι b r) := LLe.put fun r' hr' => by rw [hl] at hr'; cases hr'; exact .inl rfl
  have hlens : ∀ (i : Nat) (cs : List AV), (es.set len cs2)[i]? = some cs → cs.length = j.size := fun i cs hc => by
    by_cases hi : len = i
    · subst hi; rw [List.getElem?_set_self hlt] at hc; cases hc; exact hu2
    · rw [List.getElem?_set_ne hi] at hc; exact r5 i cs hc
  have hrow : rowCells H (bif p then noLay else lput ι b r) j.size (es.set len cs2) C := by
    refine ⟨hlens, fun i cs k y hc hk => ?_⟩
    have hkk : k < j.size := by
      rw [← hlens i cs hc]
      exact (List.getElem?_eq_some_iff.1 hk).1
    have hi : i < es.length := by
      have := (List.getElem?_eq_some_iff.1 hc).1
      simpa using this
    by_cases hil : len = i
    · subst hil
      rw [List.getElem?_set_self hlt] at hc; cases hc
      obtain ⟨v, k1, k2, k3⟩ := hnews 0 cs2 k y rfl hk
      rw [Nat.zero_mul, Nat.zero_add] at k1
      refine ⟨v, by rw [hget, if_neg (by omega), if_pos (by omega), Nat.add_sub_cancel_left]; exact k1, ?_, k3⟩
      cases p with
      | false => exact k2.mono (KLe.refl _) hll
      | true => exact pure1_rel (List.all_eq_true.1 (hpure rfl) y (List.mem_of_getElem? hk)) k2
    · rw [List.getElem?_set_ne hil] at hc
      obtain ⟨v, k1, k2, k3⟩ := w3.2 i cs k y hc hk
      refine ⟨v, ?_, ?_, k3⟩
      · rw [hget]
        by_cases h1 : i < len
        · have : (i + 1) * j.size ≤ len * j.size := Nat.mul_le_mul_right _ (by omega)
          rw [Nat.add_mul, Nat.one_mul] at this
          rw [if_pos (by omega)]; exact k1
        · have : (len + 1) * j.size ≤ i * j.size := Nat.mul_le_mul_right _ (by omega)
          rw [if_neg (by omega), if_neg (by omega)]; exact k1
      · cases p with
        | false => exact k2.mono (KLe.refl _) hll
        | true => exact k2
  obtain ⟨u1, u2⟩ := hs.heap.upd (w' := w.setRow r.rb C) (o0 := .row p j.size es) (o' := .row p j.size (es.set len cs2)) (r' := r) hb' rfl
    (.inr ⟨r, hl, rfl, .inl rfl⟩) (fun _ => .inr ⟨r, hl, rfl, hsol, rfl⟩)
    (fun rb hlt' hne => setRow_other w r.rb rb _ (hne r hl rfl hsol)) (by simp) (setRow_os _ _ _) (setRow_out _ _ _)
    ⟨r1, r2, by simp [r3], by simpa using r4, hrow.1, fun _ => ⟨C, TT, setRow_heap w r.rb c C TT _ w1, hCs.trans w2, hrow⟩⟩
  have hex := hexec _ _ (hvv ▸ hrun)
  unfold Oper.wp
  rw [hex]
  refine ⟨_, H, _, rfl, (fun x ex => ?_), u1, u2⟩
  cases ex
  have := Rel.refL (H := H) (lput ι b r) b es.length 0 (len + 1) cap _ (lput_same _ _ _) r3 (by omega) hroom (by rw [Nat.zero_add]; exact hcap) hmax
  simpa using this
/-- what a stack's row is behind a push -/
def pushE (es : List (List AV)) (len : Nat) (cs : List AV) : List (List AV) := if len < es.length then es.set len cs else es ++ [cs]
theorem pushE_take {es : List (List AV)} {len : Nat} {cs : List AV} (h : len ≤ es.length) : (pushE es len cs).take (len + 1) = es.take len ++ [cs] := by
  unfold pushE
  split
  · rename_i hlt
    rw [take_succ_eq (List.getElem?_set_self hlt), List.take_set_of_le (Nat.le_refl _)]
  · have : len = es.length := by omega
    subst this
    rw [List.take_of_length_le (by simp), List.take_of_length_le (Nat.le_refl _)]
theorem pushE_len {es : List (List AV)} {len : Nat} {cs : List AV} (h : len ≤ es.length) : len + 1 ≤ (pushE es len cs).length := by
  unfold pushE
  split
  · simp; omega
  · simp; omega
theorem o_push (hT : TOk P T) {t t' : TypeId} {x y : Operand} {i i' j : TyI} {u u' : Nat} {b n len : Nat} {p : Bool} {sz : Nat} {es : List (List AV)} {cs2 : List AV} {q : AV} {R : List Nat}
    (ho : o.op = .call { callee := .builtin .append, args := #[x, y], argTypes := #[t, t'] }) (hx : look e x = some (.ref b n 0 len)) (hy : look e y = some q) (hi : T t = some i) (hk : i.k = .slice u) (hj : T u = some j) (hi' : T t' = some i') (hk' : i'.k = .slice u')
    (hb : h b = some (.row p sz es)) (hn : n = es.length) (hlt : len ≤ n) (hsz : sz = j.size) (hz : j.zero.length = j.size) (hp : 0 < j.size)
    (hsrc : SrcOf h q R [cs2]) (hu2 : cs2.length = sz) (hpure : p = true → cs2.all AV.isPure1 = true) (hby : (es.length + 1) * j.bytes ≤ 140737488355328) (hml : es.length + 1 ≤ maxLen) :
    OLoc P o e h (b :: R) [(b, .row p sz (pushE es len cs2))] (some (.ref b (pushE es len cs2).length 0 (len + 1))) := by
  by_cases h1 : len < es.length
  · have e1 : pushE es len cs2 = es.set len cs2 := by simp [pushE, h1]
    rw [e1]
    have := o_appendIn hT ho hx hy hi hk hj hi' hk' hb hn (by omega) hsz hp hsrc hu2 hpure
    rw [List.length_set, ← hn]; exact this
  · have e1 : pushE es len cs2 = es ++ [cs2] := by simp [pushE, h1]
    have hl : len = n := by omega
    subst hl
    rw [e1]
    have := o_append hT ho hx hy hi hk hj hi' hk' hb hn hsz hz hp hsrc (by intro cs h; simp at h; subst h; exact hu2) (fun hp cs h => by simp at h; subst h; exact hpure hp) (m := 1) rfl hby hml
    rw [show (es ++ [cs2]).length = len + 1 by simp [hn]]; exact this
end
end Go.Proofs.Ytidfabbnobipkaa.Sv
