/-
  append, AND SLICES WRITTEN OUT: own work, over no program.
-/
import Derived.Test.YtidfabbnobipkaaSv9
namespace Go.Proofs.Ytidfabbnobipkaa.Sv
open Go
set_option linter.unusedVariables false
set_option linter.unusedSimpArgs false

section
variable {P : Program} {T : Nat → Option TyI} {o : Oper} {e : AEnv} {h : AHeap}

theorem SrcOf.agree {h h' : AHeap} {x : AV} {R : List Nat} {es : List (List AV)} (hs : SrcOf h x R es) (ha : ∀ b ∈ R, h' b = h b) : SrcOf h' x R es := by
  cases hs with
  | lst => exact .lst _ _
  | nil => exact .nil
  | ref b n off len p sz es hb hn => exact .ref b n off len p sz es (by rw [ha b (by simp)]; exact hb) hn

theorem run_append_room_row {w : World} (t tx ty u : TypeId) (i : TypeInfo) (ht : P.underlying t = some (.slice u)) (hi : P.info? u = some i) (g sLen sCap : Nat) (cur : Array Value) (TT : TypeId) (hg : w.heap[g]? = some (.cells cur TT)) (x : Value) (n : Nat) (news : List Value)
    (hs : Src P i.size tx x n news w) (hroom : sLen + n ≤ sCap) (hfit : sLen * i.size + news.length ≤ cur.size) :
    (Builtin.append_ #[t, tx] ty #[.slice (some ⟨g, 0, none⟩) sLen sCap, x]).run P w = .ok (.slice (some ⟨g, 0, none⟩) (sLen + n) sCap)
      (w.setRow g (cur.toList.take (sLen * i.size) ++ news ++ cur.toList.drop (sLen * i.size + news.length)).toArray) := by
  have hst := run_storeCells_at P g (sLen * i.size) TT news 0 cur w hg (by simpa using hfit) hs.one
  simp only [Nat.add_zero] at hst
  rcases hs.kind with ⟨e', hk⟩ | hk <;> simp [Builtin.append_, run_underlying ht, run_underlying hk, sizeOf, typeInfo, hi, hs.len, hroom, hs.cells, Addr.add_lit, hst]

theorem run_append_dry {w : World} (t tx ty u : TypeId) (i : TypeInfo) (ht : P.underlying t = some (.slice u)) (hi : P.info? u = some i) (a : Option Addr) (x : Value)
    (hs : Src P i.size tx x 0 [] w) : (Builtin.append_ #[t, tx] ty #[.slice a 0 0, x]).run P w = .ok (.slice a 0 0) w := by
  have h1 := hs.len
  have h2 := hs.cells
  rcases hs.kind with ⟨e', hk⟩ | hk <;> cases a <;> simp [Builtin.append_, run_underlying ht, run_underlying hk, sizeOf, typeInfo, hi, h1, h2, storeCells]

/-- A row with more behind it. -/
theorem rowCells_append {H : Know} {ι : Lay} {sz : Nat} {es es2 : List (List AV)} {c : Array Value} {olds news : List Value} (ho : olds.length = es.length * sz) (hn : news.length = es2.length * sz) (h2 : ∀ cs ∈ es2, cs.length = sz)
    (hu : ∀ (i : Nat) (cs : List AV), es[i]? = some cs → cs.length = sz)
    (h1 : ∀ (i : Nat) (cs : List AV) (j : Nat) (x : AV), es[i]? = some cs → cs[j]? = some x → ∃ v, olds[i * sz + j]? = some v ∧ Rel H ι x v ∧ x.cell1 = true)
    (h3 : ∀ (i : Nat) (cs : List AV) (j : Nat) (x : AV), es2[i]? = some cs → cs[j]? = some x → ∃ v, news[i * sz + j]? = some v ∧ Rel H ι x v ∧ x.cell1 = true)
    (hc : ∀ j, j < olds.length + news.length → c[j]? = (olds ++ news)[j]?) : rowCells H ι sz (es ++ es2) c := by
  refine ⟨fun i cs e => ?_, fun i cs j x e1 e2 => ?_⟩
  · by_cases hi : i < es.length
    · rw [List.getElem?_append_left hi] at e; exact hu i cs e
    · rw [List.getElem?_append_right (by omega)] at e; exact h2 cs (List.mem_of_getElem? e)
  · by_cases hi : i < es.length
    · rw [List.getElem?_append_left hi] at e1
      have hj : j < sz := by
        rw [← hu i cs e1]
        rcases Nat.lt_or_ge j cs.length with h | h
        · exact h
        · rw [List.getElem?_eq_none h] at e2; cases e2
      have hlt := mul_add_lt_mul hi hj
      obtain ⟨v, f1, f2, f3⟩ := h1 i cs j x e1 e2
      exact ⟨v, by rw [hc _ (by omega), List.getElem?_append_left (by omega)]; exact f1, f2, f3⟩
    · rw [List.getElem?_append_right (by omega)] at e1
      have hj : j < sz := by
        rw [← h2 cs (List.mem_of_getElem? e1)]
        rcases Nat.lt_or_ge j cs.length with h | h
        · exact h
        · rw [List.getElem?_eq_none h] at e2; cases e2
      have hi2 : i - es.length < es2.length := by
        rcases Nat.lt_or_ge (i - es.length) es2.length with h | h
        · exact h
        · rw [List.getElem?_eq_none h] at e1; cases e1
      have hlt := mul_add_lt_mul hi2 hj
      obtain ⟨v, f1, f2, f3⟩ := h3 (i - es.length) cs j x e1 e2
      have hidx : i * sz + j - olds.length = (i - es.length) * sz + j := by
        rw [ho, Nat.sub_mul]
        have : es.length * sz ≤ i * sz := Nat.mul_le_mul_right _ (by omega)
        omega
      have hge : es.length * sz ≤ i * sz := Nat.mul_le_mul_right _ (by omega)
      have hsub : (i - es.length) * sz = i * sz - es.length * sz := Nat.sub_mul _ _ _
      refine ⟨v, ?_, f2, f3⟩
      rw [hc _ (by omega), List.getElem?_append_right (by omega), hidx]
      exact f1

theorem o_append (hT : TOk P T) {t t' : TypeId} {x y : Operand} {i i' j : TyI} {u u' : Nat} {b n m : Nat} {p : Bool} {sz : Nat} {es es2 : List (List AV)} {q : AV} {R : List Nat}
    (ho : o.op = .call { callee := .builtin .append, args := #[x, y], argTypes := #[t, t'] }) (hx : look e x = some (.ref b n 0 n)) (hy : look e y = some q) (hi : T t = some i) (hk : i.k = .slice u) (hj : T u = some j) (hi' : T t' = some i') (hk' : i'.k = .slice u')
    (hb : h b = some (.row p sz es)) (hn : n = es.length) (hsz : sz = j.size) (hz : j.zero.length = j.size) (hp : 0 < j.size)
    (hsrc : SrcOf h q R es2) (hu2 : ∀ cs ∈ es2, cs.length = sz) (hpure : p = true → ∀ cs ∈ es2, cs.all AV.isPure1 = true) (hm : m = es2.length)
    (hby : (es.length + es2.length) * j.bytes ≤ 140737488355328) (hml : es.length + es2.length ≤ maxLen) :
    OLoc P o e h (b :: R) [(b, .row p sz (es ++ es2))] (some (.ref b (n + m) 0 (n + m))) := by
  intro H ι a w s Q hs g1 g2
  have hx' : look s.env x = some (.ref b n 0 n) := by rw [g1 x (by rw [ho]; simp [Op.operands, Call.operands]), hx]
  have hy' : look s.env y = some q := by rw [g1 y (by rw [ho]; simp [Op.operands, Call.operands]), hy]
  have hb' : s.h b = some (.row p sz es) := by rw [g2 b (by simp), hb]
  have hsrc' := hsrc.agree (h' := s.h) (fun c hc => g2 c (by simp [hc]))
  obtain ⟨info, d, e1, e2, e3, e4, e5, e6⟩ := tyOf_spec (hT _ _ hi)
  obtain ⟨infou, du, f1, f2, f3, f4, f5, f6⟩ := tyOf_spec (hT _ _ hj)
  obtain ⟨info', d', e1', e2', e3', e4', e5', e6'⟩ := tyOf_spec (hT _ _ hi')
  have hd := tk_slice (P := P) (d := d) (e3 ▸ hk)
  subst hd
  have hd' := tk_slice (P := P) (d := d') (e3' ▸ hk')
  subst hd'
  subst hsz; subst hn; subst hm
  obtain ⟨z, hz1, hz2⟩ := zero_spec f6 hz hp
  have hzl : z.cells.size = j.size := by rw [← hz]; simpa using (allAV_rel (H := H) (ι := noLay) hz2).1.symm
  obtain ⟨r, hl, ⟨r1, r2, r3, r4, r5, r6⟩, r7⟩ := hs.heap.obj b _ hb' rfl
  have hvx := look_rel hs hx'
  have hvy := look_rel hs hy'
  generalize hva : a.eval x = va at hvx
  generalize hvb : a.eval y = vb at hvy
  have hexec : ∀ (v : Value) (w' : World), (Builtin.append_ #[t, t'] o.type #[va, vb]).run P w = .ok v w' → (execOp a.eval o).run P w = .ok (.value v) w' := fun v w' hrun => by
    simp only [execOp, ho, resolve, invoke, builtin, Sem.run_bind, Sem.run_pure, Result.andThen_ok, List.map_toArray, List.map_cons, List.map_nil, hva, hvb, hrun]
  obtain ⟨news, hsrcw, hnews⟩ := src_of hs.heap hsrc' hvy e2' hp hu2 w rfl
  rw [← f4] at hsrcw
  have hnl : news.length = es2.length * j.size := by rw [hsrcw.newsLen, f4]
  -- the new part, as the row wants it
  have hnewsp : ∀ ι', LLe ι ι' → ∀ (i : Nat) (cs : List AV) (k : Nat) (y : AV), es2[i]? = some cs → cs[k]? = some y → ∃ v, news[i * j.size + k]? = some v ∧ Rel H (bif p then noLay else ι') y v ∧ y.cell1 = true := fun ι' hll i cs k y h1 h2 => by
    obtain ⟨v, k1, k2, k3⟩ := hnews i cs k y h1 h2
    refine ⟨v, k1, ?_, k3⟩
    cases p with
    | false => exact k2.mono (KLe.refl _) hll
    | true => exact pure1_rel (List.all_eq_true.1 (hpure rfl cs (List.mem_of_getElem? h1)) y (List.mem_of_getElem? h2)) k2
  by_cases h0 : es2.length = 0
  · -- nothing is appended
    have hes : es2 = [] := List.eq_nil_of_length_eq_zero h0
    subst hes
    have hnn : news = [] := List.eq_nil_of_length_eq_zero (by simpa using hnl)
    subst hnn
    have hfin : ∀ (v : Value), (execOp a.eval o).run P w = .ok (.value v) w → Rel H ι (.ref b es.length 0 es.length) v → o.wp P a w (fun a' w' => ∃ v H' ι', a' = a.put o.dst v ∧ (∀ x, some (AV.ref b (es.length + ([] : List (List AV)).length) 0 (es.length + ([] : List (List AV)).length)) = some x → Rel H' ι' x v) ∧ HeapRel H' ι' (hputs s.h [(b, .row p j.size (es ++ []))]) w' ∧ Step H ι s.h w H' ι' (hputs s.h [(b, .row p j.size (es ++ []))]) w') Q := fun v hrun hrel => by
      have hsame : hputs s.h [(b, .row p j.size (es ++ []))] = s.h := by
        funext c
        by_cases hc : c = b
        · subst hc; simp [hputs, hput_same, hb']
        · simp [hputs, hput_ne _ _ hc]
      unfold Oper.wp
      rw [hrun, hsame]
      exact ⟨v, H, ι, rfl, (fun x ex => by have := Option.some.inj ex; subst this; exact hrel), hs.heap, Step.refl _ _ _ _⟩
    by_cases hsol : r.csz = 0
    · obtain ⟨hl0, ad, rfl, hsp⟩ := hvx.ref_dry hl (by omega) hsol (by omega)
      rw [hl0]
      rw [hl0] at hvx
      exact hl0 ▸ hfin _ (hexec _ _ (run_append_dry t t' o.type u infou e2 f1 ad vb hsrcw)) (by rw [hl0]; exact hvx)
    · obtain ⟨hlen, cap, rfl, hlc, hcap, hmax⟩ := hvx.ref_live hl (by omega) hsol
      obtain ⟨c, TT, w1, w2, w3⟩ := r6 hsol
      simp only [Nat.zero_mul, Nat.zero_add] at hvx hcap hexec
      have hrun := run_append_room_row (P := P) (w := w) t t' o.type u infou e2 f1 r.rb es.length cap c TT w1 vb 0 [] hsrcw (by omega) (by rw [w2, f4]; simp; omega)
      have hself : (w.setRow r.rb (c.toList.take (es.length * infou.size) ++ [] ++ c.toList.drop (es.length * infou.size + ([] : List Value).length)).toArray) = w := by
        simp only [List.append_nil, List.length_nil, Nat.add_zero, List.take_append_drop, Array.toArray_toList]
        exact setRow_self w r.rb c TT (0, 0) w1
      rw [hself] at hrun
      simp only [Nat.add_zero] at hrun
      exact hfin _ (hexec _ _ hrun) hvx
  · -- something is
    have hpos : 0 < es2.length := by omega
    have h63 : ((es.length + es2.length : Nat) : Int) ≤ 9223372036854775807 := by
      have := hml; simp only [maxLen] at this; omega
    -- the new place, where there is no room
    have hgrow : ∀ (base : Option Addr) (cap : Nat) (olds : List Value), va = .slice base es.length cap → (Builtin.firstCells infou.size es.length (.slice base es.length cap)).run P w.drew = .ok olds.toArray w.drew → olds.length = es.length * j.size →
        (∀ ι', LLe ι ι' → ∀ (i : Nat) (cs : List AV) (k : Nat) (x : AV), es[i]? = some cs → cs[k]? = some x → ∃ v, olds[i * j.size + k]? = some v ∧ Rel H (bif p then noLay else ι') x v ∧ x.cell1 = true) → cap < es.length + es2.length →
        o.wp P a w (fun a' w' => ∃ v H' ι', a' = a.put o.dst v ∧ (∀ x, some (AV.ref b (es.length + es2.length) 0 (es.length + es2.length)) = some x → Rel H' ι' x v) ∧ HeapRel H' ι' (hputs s.h [(b, .row p j.size (es ++ es2))]) w' ∧ Step H ι s.h w H' ι' (hputs s.h [(b, .row p j.size (es ++ es2))]) w') Q := by
      intro base cap olds hv hold hol holdr hlt
      have hfit : Builtin.nextslicecap (es.length + es2.length) cap * infou.bytes ≤ 281474976710656 := growslice_fits hlt (by rw [f5]; exact hby)
      have hrun := run_append_grow_src (P := P) w t t' o.type u infou z e2 f1 hz1 base es.length cap olds hold vb es2.length news hsrcw hlt h63 hfit
      have hge := grownCap_ge w (es.length + es2.length) cap u
      have hcm : grownCap w (es.length + es2.length) cap u ≤ maxLen := grownCap_le_maxLen w _ cap u hml
      generalize hcc : grownCap w (es.length + es2.length) cap u = nc at *
      generalize hC : (olds ++ news).toArray ++ Builtin.zeroCells z.cells (nc - (es.length + es2.length)) = C at *
      have hCs : C.size = nc * j.size := by
        rw [← hC, Array.size_append, size_zeroCells, hzl]
        simp only [List.size_toArray, List.length_append, hol, hnl, ← Nat.add_mul]
        congr 1; omega
      have hCg : ∀ k, k < olds.length + news.length → C[k]? = (olds ++ news)[k]? := fun k hk => by
        rw [← hC, Array.getElem?_append_left (by simp; omega)]
        simp
      have hll : LLe ι (lput ι b ⟨w.heap.size, j.size, es.length + es2.length, C.size⟩) := LLe.put fun r' hr' => by
        rw [hl] at hr'; cases hr'
        exact .inr ⟨by show r.n < es.length + es2.length; omega, by omega, r1.symm⟩
      have hrow : rowCells H (bif p then noLay else lput ι b ⟨w.heap.size, j.size, es.length + es2.length, C.size⟩) j.size (es ++ es2) C :=
        rowCells_append hol hnl hu2 r5 (holdr _ hll) (hnewsp _ hll) hCg
      have hsol' : (⟨w.heap.size, j.size, es.length + es2.length, C.size⟩ : Ent).solid := by
        show C.size ≠ 0
        have := Nat.mul_pos (show 0 < nc by omega) hp
        omega
      obtain ⟨u1, u2⟩ := hs.heap.upd (w' := w.drew.alloc (.cells C u)) (o0 := .row p j.size es) (o' := .row p j.size (es ++ es2)) (r' := ⟨w.heap.size, j.size, es.length + es2.length, C.size⟩) hb' rfl
        (.inr ⟨r, hl, rfl, .inr ⟨by show r.n < es.length + es2.length; omega, by omega, r1.symm⟩⟩) (fun _ => .inl (Nat.le_refl _))
        (fun rb hlt' _ => heap_alloc_old w.drew _ hlt') (by simp) rfl rfl
        ⟨rfl, hp, by simp, by rw [List.length_append]; show (es.length + es2.length) * j.size ≤ C.size; rw [hCs]; exact Nat.mul_le_mul_right _ hge, hrow.1, fun _ => ⟨C, u, heap_alloc_new w.drew _, rfl, hrow⟩⟩
      have hex := hexec _ _ (hv ▸ hrun)
      unfold Oper.wp
      rw [hex]
      refine ⟨_, H, _, rfl, (fun x ex => ?_), u1, u2⟩
      cases ex
      have := Rel.refL (H := H) (lput ι b ⟨w.heap.size, j.size, es.length + es2.length, C.size⟩) b (es.length + es2.length) 0 (es.length + es2.length) nc _ (lput_same _ _ _) rfl (by omega) hge (by simp [hCs]) hcm
      simpa using this
    by_cases hsol : r.csz = 0
    · obtain ⟨hl0, ad, rfl, hsp⟩ := hvx.ref_dry hl (by omega) hsol (by omega)
      refine hgrow ad 0 [] (by rw [hl0]) ?_ (by simp [hl0]) (fun ι' _ i cs k x h1 => ?_) (by omega)
      · rw [hl0]
        cases ad <;> simp [Builtin.firstCells, loadCells, loadCellsFrom]
      · rw [List.getElem?_eq_none (by omega)] at h1; cases h1
    · obtain ⟨hlen, cap, hvv, hlc, hcap, hmax⟩ := hvx.ref_live hl (by omega) hsol
      obtain ⟨c, TT, w1, w2, w3⟩ := r6 hsol
      simp only [Nat.zero_mul, Nat.zero_add] at hcap hvv
      have hcs : c.size = cap * j.size := by rw [w2, ← hcap, r1]
      have hold : ∀ k, k < es.length * j.size → (c.toList.take (es.length * j.size))[k]? = c[k]? := fun k hk => by
        rw [List.getElem?_take_of_lt hk, Array.getElem?_toList]
      have holdl : (c.toList.take (es.length * j.size)).length = es.length * j.size := by
        have : es.length * j.size ≤ c.size := by rw [hcs]; exact Nat.mul_le_mul_right _ hlc
        simp; omega
      have holdr : ∀ ι', LLe ι ι' → ∀ (i : Nat) (cs : List AV) (k : Nat) (x : AV), es[i]? = some cs → cs[k]? = some x → ∃ v, (c.toList.take (es.length * j.size))[i * j.size + k]? = some v ∧ Rel H (bif p then noLay else ι') x v ∧ x.cell1 = true := fun ι' hll i cs k x h1 h2 => by
        obtain ⟨v, k1, k2, k3⟩ := w3.2 i cs k x h1 h2
        have hi : i < es.length := by
          rcases Nat.lt_or_ge i es.length with h | h
          · exact h
          · rw [List.getElem?_eq_none h] at h1; cases h1
        have hkk : k < j.size := by
          rw [← r5 i cs h1]
          rcases Nat.lt_or_ge k cs.length with h | h
          · exact h
          · rw [List.getElem?_eq_none h] at h2; cases h2
        refine ⟨v, by rw [hold _ (mul_add_lt_mul hi hkk)]; exact k1, ?_, k3⟩
        cases p with
        | false => exact k2.mono (KLe.refl _) hll
        | true => exact k2
      by_cases hroom : es.length + es2.length ≤ cap
      · -- in place
        have hfit : es.length * infou.size + news.length ≤ c.size := by rw [hnl, f4, hcs, ← Nat.add_mul]; exact Nat.mul_le_mul_right _ hroom
        have hrun := run_append_room_row (P := P) (w := w) t t' o.type u infou e2 f1 r.rb es.length cap c TT w1 vb es2.length news hsrcw hroom hfit
        rw [f4] at hrun hfit
        generalize hC : (c.toList.take (es.length * j.size) ++ news ++ c.toList.drop (es.length * j.size + news.length)).toArray = C at *
        have hCs : C.size = c.size := by rw [← hC]; simp; omega
        have hCg : ∀ k, k < (c.toList.take (es.length * j.size)).length + news.length → C[k]? = (c.toList.take (es.length * j.size) ++ news)[k]? := fun k hk => by
          rw [← hC]
          simp only [List.getElem?_toArray]
          rw [List.getElem?_append_left (by rw [List.length_append]; exact hk)]
        have hll : LLe ι (lput ι b ⟨r.rb, j.size, es.length + es2.length, r.csz⟩) := LLe.put fun r' hr' => by
          rw [hl] at hr'; cases hr'
          exact .inr ⟨by show r.n < es.length + es2.length; omega, by omega, r1.symm⟩
        have hrow : rowCells H (bif p then noLay else lput ι b ⟨r.rb, j.size, es.length + es2.length, r.csz⟩) j.size (es ++ es2) C :=
          rowCells_append holdl hnl hu2 r5 (holdr _ hll) (hnewsp _ hll) hCg
        obtain ⟨u1, u2⟩ := hs.heap.upd (w' := w.setRow r.rb C) (o0 := .row p j.size es) (o' := .row p j.size (es ++ es2)) (r' := ⟨r.rb, j.size, es.length + es2.length, r.csz⟩) hb' rfl
          (.inr ⟨r, hl, rfl, .inr ⟨by show r.n < es.length + es2.length; omega, by omega, r1.symm⟩⟩) (fun _ => .inr ⟨r, hl, rfl, hsol, rfl⟩)
          (fun rb hlt' hne => setRow_other w r.rb rb _ (hne r hl rfl hsol)) (by simp) (setRow_os _ _ _) (setRow_out _ _ _)
          ⟨rfl, hp, by simp, by rw [List.length_append]; show (es.length + es2.length) * j.size ≤ r.csz; rw [← w2, hcs]; exact Nat.mul_le_mul_right _ hroom, hrow.1, fun _ => ⟨C, TT, setRow_heap w r.rb c C TT _ w1, hCs.trans w2, hrow⟩⟩
        have hex := hexec _ _ (hvv ▸ hrun)
        unfold Oper.wp
        rw [hex]
        refine ⟨_, H, _, rfl, (fun x ex => ?_), u1, u2⟩
        cases ex
        have := Rel.refL (H := H) (lput ι b ⟨r.rb, j.size, es.length + es2.length, r.csz⟩) b (es.length + es2.length) 0 (es.length + es2.length) cap _ (lput_same _ _ _) rfl (by omega) hroom (by simp [← hcap, r1]) hmax
        simpa using this
      · refine hgrow (some ⟨r.rb, 0, none⟩) cap (c.toList.take (es.length * j.size)) hvv ?_ holdl holdr (by omega)
        rw [f4]
        refine run_firstCells_some (P := P) w.drew j.size es.length ⟨r.rb, 0, none⟩ es.length cap _ holdl (fun k v hk => ?_)
        have hkl : k < es.length * j.size := by
          rcases Nat.lt_or_ge k (es.length * j.size) with h | h
          · exact h
          · rw [List.getElem?_eq_none (by rw [holdl]; exact h)] at hk; cases hk
        rw [hold k hkl] at hk
        rw [add_mk, World.cell?_drew, cell_row w1, Nat.zero_add]
        exact hk

end
end Go.Proofs.Ytidfabbnobipkaa.Sv
