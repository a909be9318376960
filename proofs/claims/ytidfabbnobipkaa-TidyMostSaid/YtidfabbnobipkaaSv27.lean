/-
  SLICES CUT TO WHAT THEY HOLD, AND WHAT IS PUT BEHIND THEM; weaker values in thought: own work, over no program.
-/
import Derived.Test.YtidfabbnobipkaaSv26
namespace Go.Proofs.Ytidfabbnobipkaa.Sv
open Go
set_option linter.unusedVariables false
set_option linter.unusedSimpArgs false

section
variable {P : Program} {T : Nat → Option TyI} {o : Oper} {e : AEnv} {h : AHeap}

/-- l[:len(l):len(l)] -/
theorem q_slice3 (hT : TOk P T) {t : TypeId} {x y y' : Operand} {ex : Bool} {es : List (List AV)} {i j : TyI} {u : Nat} {k k' : IntKind} (ho : o.op = .slice t x none (some y) (some y')) (hx : look e x = some (.lst ex es)) (hy : look e y = some (.int k (es.length : Int))) (hy' : look e y' = some (.int k' (es.length : Int))) (ht : T t = some i) (hk : i.k = .slice u) (hj : T u = some j) :
    QLoc P o e h [] (.lst true es) := by
  intro H ι a w s hs g1 g2
  have hx' : look s.env x = some (.lst ex es) := by rw [g1 x (by rw [ho]; simp [Op.operands]), hx]
  have hy1 : look s.env y = some (.int k (es.length : Int)) := by rw [g1 y (by rw [ho]; simp [Op.operands]), hy]
  have hy2 : look s.env y' = some (.int k' (es.length : Int)) := by rw [g1 y' (by rw [ho]; simp [Op.operands]), hy']
  obtain ⟨info, d, e1, e2, e3, e4, e5, e6⟩ := tyOf_spec (hT _ _ ht)
  obtain ⟨info', d', e1', e2', e3', e4', e5', e6'⟩ := tyOf_spec (hT _ _ hj)
  have hd := tk_slice (P := P) (d := d) (e3 ▸ hk)
  subst hd
  have hvx := look_rel hs hx'
  have hv1 := (look_rel hs hy1).int_inv
  have hv2 := (look_rel hs hy2).int_inv
  generalize hva : a.eval x = va at hvx
  have hrun : ∀ (ad : Option Addr) (cap : Nat), es.length ≤ cap → va = .slice ad es.length cap → (execOp a.eval o).run P w = .ok (.value (.slice (if es.length = 0 then ad else ad.map (·.add (0 * j.size))) (es.length - 0) (es.length - 0))) w := fun ad cap hcap hv => by
    simp only [execOp, ho, hva, hv, hv1, hv2, Instr.sliceAt, Instr.slice, Option.map_none, Option.map_some, Sem.run_bind, run_underlying' e2, Result.andThen_ok, run_isz e1', e4', Sem.run_pure]
    simp [Instr.sliceBounds, Instr.sliceBound, asIntOf, hcap]
  rcases hvx.lst_inv with ⟨rfl, ad, cap, rfl, h1, h2, h3, h4⟩ | ⟨hne, b, off, cap, sz, c, vals, rfl, hb, hsz', hv, hr, hc1, hex, hcap, hmax⟩
  · refine ⟨_, ?_, hrun ad cap (Nat.zero_le _) rfl⟩
    simp only [List.length_nil, if_true, Nat.sub_zero]
    exact .lst0 _ _ _ _ (fun _ => rfl) (Nat.zero_le _) (fun _ => rfl) trivial
  · refine ⟨_, ?_, hrun _ cap hcap rfl⟩
    have hl : es.length ≠ 0 := fun h => hne (List.eq_nil_of_length_eq_zero h)
    rw [if_neg hl]
    have hadd : (some (⟨b, off, none⟩ : Addr)).map (·.add (0 * j.size)) = some ⟨b, off, none⟩ := by simp [Addr.add]
    rw [hadd, Nat.sub_zero]
    exact .lst ι true es b off es.length sz c vals hne hb hsz' hv hr hc1 (fun _ => rfl) (Nat.le_refl _) (by omega)

/-- a slice without room, as it came, as long as nothing was put behind it; else a row of one's own -/
def jAV (f : Bool) (b : Nat) (es : List (List AV)) : AV := bif f then .lst true es else .ref b es.length 0 es.length
def jObj (f : Bool) (sz : Nat) (es : List (List AV)) : AObj := bif f then .free else .row true sz es

theorem o_appendJ (hT : TOk P T) {t t' : TypeId} {x y : Operand} {i i' j : TyI} {u u' : Nat} {f ex2 : Bool} {sz : Nat} {es es2 : List (List AV)} (b : Nat)
    (ho : o.op = .call { callee := .builtin .append, args := #[x, y], argTypes := #[t, t'] }) (hx : look e x = some (jAV f b es)) (hy : look e y = some (.lst ex2 es2)) (hi : T t = some i) (hk : i.k = .slice u) (hj : T u = some j) (hi' : T t' = some i') (hk' : i'.k = .slice u')
    (hb : h b = some (jObj f sz es)) (hsz : sz = j.size) (hz : j.zero.length = j.size) (hp : 0 < j.size)
    (hu : ∀ cs ∈ es, cs.length = sz) (hpu : ∀ cs ∈ es, cs.all AV.isPure1 = true) (hu2 : ∀ cs ∈ es2, cs.length = sz) (hpure : ∀ cs ∈ es2, cs.all AV.isPure1 = true)
    (hby : (es.length + es2.length) * j.bytes ≤ 140737488355328) (hml : es.length + es2.length ≤ maxLen) :
    OLoc P o e h [b] [(b, jObj (f && es2.isEmpty) sz (es ++ es2))] (some (jAV (f && es2.isEmpty) b (es ++ es2))) := by
  cases f with
  | false =>
    have := o_append hT ho hx hy hi hk hj hi' hk' hb rfl hsz hz hp (.lst ex2 es2) hu2 (fun _ => hpure) (m := es2.length) rfl hby hml
    simpa [jAV, jObj] using this
  | true =>
    simp only [jAV, jObj, cond_true] at hx hb
    cases hes2 : es2 with
    | nil =>
      subst hes2
      simp only [List.isEmpty_nil, Bool.and_self, List.append_nil, jObj, jAV, cond_true]
      intro H ι a w s Q hs g1 g2
      have hx' : look s.env x = some (.lst true es) := by rw [g1 x (by rw [ho]; simp [Op.operands, Call.operands]), hx]
      have hy' : look s.env y = some (.lst ex2 []) := by rw [g1 y (by rw [ho]; simp [Op.operands, Call.operands]), hy]
      have hb' : s.h b = some .free := by rw [g2 b (by simp), hb]
      obtain ⟨info, d, e1, e2, e3, e4, e5, e6⟩ := tyOf_spec (hT _ _ hi)
      obtain ⟨infou, du, f1, f2, f3, f4, f5, f6⟩ := tyOf_spec (hT _ _ hj)
      obtain ⟨info', d', e1', e2', e3', e4', e5', e6'⟩ := tyOf_spec (hT _ _ hi')
      have hd := tk_slice (P := P) (d := d) (e3 ▸ hk)
      subst hd
      have hd' := tk_slice (P := P) (d := d') (e3' ▸ hk')
      subst hd'
      have hvx := look_rel hs hx'
      have hvy := look_rel hs hy'
      generalize hva : a.eval x = va at hvx
      generalize hvb : a.eval y = vb at hvy
      obtain ⟨news, hsrcw, hnews⟩ := src_of hs.heap (SrcOf.lst ex2 []) hvy e2' hp (by intro cs h; cases h) w rfl
      rw [← f4] at hsrcw
      have hnn : news = [] := List.eq_nil_of_length_eq_zero (by rw [hsrcw.newsLen]; simp)
      subst hnn
      have hsame : hputs s.h [(b, .free)] = s.h := by
        funext c
        by_cases hc : c = b
        · subst hc; simp [hputs, hput_same, hb']
        · simp [hputs, hput_ne _ _ hc]
      have hexec : ∀ (v : Value) (w' : World), (Builtin.append_ #[t, t'] o.type #[va, vb]).run P w = .ok v w' → (execOp a.eval o).run P w = .ok (.value v) w' := fun v w' hrun => by
        simp only [execOp, ho, resolve, invoke, builtin, Sem.run_bind, Sem.run_pure, Result.andThen_ok, List.map_toArray, List.map_cons, List.map_nil, hva, hvb, hrun]
      have hrun : (Builtin.append_ #[t, t'] o.type #[va, vb]).run P w = .ok va w := by
        rcases hvx.lst_inv with ⟨rfl, ad, cap, rfl, h1, h2, h3, h4⟩ | ⟨hne, b0, off, cap, sz0, c, vals, rfl, hb0, hsz', hv, hr, hc1, hex, hcap, hmax⟩
        · have := h1 rfl
          subst this
          exact run_append_dry t t' o.type u infou e2 f1 ad vb hsrcw
        · have hsrc0 : Src P infou.size t' vb 0 [] w := hsrcw
          have h1 := hsrc0.len
          have h2 := hsrc0.cells
          rcases hsrcw.kind with ⟨e', hk⟩ | hk <;> simp [Builtin.append_, run_underlying e2, run_underlying hk, sizeOf, typeInfo, f1, h1, h2, hcap, storeCells]
      unfold Oper.wp
      rw [hexec _ _ hrun, hsame]
      exact ⟨va, H, ι, rfl, (fun x ex => by have := Option.some.inj ex; subst this; exact hvx), hs.heap, Step.refl _ _ _ _⟩
    | cons y0 r0 =>
      rw [← hes2]
      have hpos : 0 < es2.length := by rw [hes2]; simp
      have hie : es2.isEmpty = false := by rw [hes2]; rfl
      simp only [hie, Bool.and_false, jObj, jAV, cond_false]
      subst hsz
      refine OLoc.of_new hb (by simp) hp fun H ι a w s hs g1 g2 => ?_
      have hx' : look s.env x = some (.lst true es) := by rw [g1 x (by rw [ho]; simp [Op.operands, Call.operands]), hx]
      have hy' : look s.env y = some (.lst ex2 es2) := by rw [g1 y (by rw [ho]; simp [Op.operands, Call.operands]), hy]
      obtain ⟨info, d, e1, e2, e3, e4, e5, e6⟩ := tyOf_spec (hT _ _ hi)
      obtain ⟨infou, du, f1, f2, f3, f4, f5, f6⟩ := tyOf_spec (hT _ _ hj)
      obtain ⟨info', d', e1', e2', e3', e4', e5', e6'⟩ := tyOf_spec (hT _ _ hi')
      have hd := tk_slice (P := P) (d := d) (e3 ▸ hk)
      subst hd
      have hd' := tk_slice (P := P) (d := d') (e3' ▸ hk')
      subst hd'
      obtain ⟨z, hz1, hz2⟩ := zero_spec f6 hz hp
      have hzl : z.cells.size = j.size := by rw [← hz]; simpa using (allAV_rel (H := H) (ι := noLay) hz2).1.symm
      have hvx := look_rel hs hx'
      have hvy := look_rel hs hy'
      generalize hva : a.eval x = va at hvx
      generalize hvb : a.eval y = vb at hvy
      have hexec : ∀ (v : Value) (w' : World), (Builtin.append_ #[t, t'] o.type #[va, vb]).run P w = .ok v w' → (execOp a.eval o).run P w = .ok (.value v) w' := fun v w' hrun => by
        simp only [execOp, ho, resolve, invoke, builtin, Sem.run_bind, Sem.run_pure, Result.andThen_ok, List.map_toArray, List.map_cons, List.map_nil, hva, hvb, hrun]
      obtain ⟨news, hsrcw, hnews⟩ := src_of hs.heap (SrcOf.lst ex2 es2) hvy e2' hp hu2 w rfl
      rw [← f4] at hsrcw
      have hnl : news.length = es2.length * j.size := by rw [hsrcw.newsLen, f4]
      have h63 : ((es.length + es2.length : Nat) : Int) ≤ 9223372036854775807 := by
        have := hml; simp only [maxLen] at this; omega
      -- what stands there already
      obtain ⟨base, olds, hv, hold, hol, holdr⟩ : ∃ (base : Option Addr) (olds : List Value), va = .slice base es.length es.length ∧ (Builtin.firstCells infou.size es.length (.slice base es.length es.length)).run P w.drew = .ok olds.toArray w.drew ∧ olds.length = es.length * j.size ∧
          (∀ (i : Nat) (cs : List AV) (k : Nat) (x : AV), es[i]? = some cs → cs[k]? = some x → ∃ v, olds[i * j.size + k]? = some v ∧ Rel H noLay x v ∧ x.cell1 = true) := by
        rcases hvx.lst_inv with ⟨rfl, ad, cap, rfl, h1, h2, h3, h4⟩ | ⟨hne, b0, off, cap, sz0, c, vals, rfl, hb0, hsz', hv, hr, hc1, hex, hcap, hmax⟩
        · have := h1 rfl
          subst this
          refine ⟨ad, [], rfl, ?_, by simp, fun i cs k x h1 => by simp at h1⟩
          cases ad <;> simp [Builtin.firstCells, loadCells, loadCellsFrom]
        · have hcl := hex rfl
          subst hcl
          obtain ⟨TT, fr, hbw⟩ := hs.heap.know b0 c hb0
          have hss : sz0 = j.size := by
            cases es with
            | nil => exact absurd rfl hne
            | cons cs es => rw [← hsz' 0 cs (by simp), hu cs (by simp)]
          subst hss
          have hget : ∀ k, k < es.length * j.size → ∃ v, c[off + k]? = some v := fun k hk => by
            have hi : k / j.size < es.length := Nat.div_lt_of_lt_mul (by rw [Nat.mul_comm]; exact hk)
            have hm : k % j.size < j.size := Nat.mod_lt _ hp
            have hjj : k / j.size * j.size + k % j.size = k := by rw [Nat.mul_comm]; exact Nat.div_add_mod k j.size
            have h1 : es[k / j.size]? = some es[k / j.size] := List.getElem?_eq_getElem hi
            have h2 : (es[k / j.size])[k % j.size]? = some ((es[k / j.size])[k % j.size]'(by rw [hsz' _ _ h1]; exact hm)) := List.getElem?_eq_getElem _
            have := hv _ _ _ _ h1 h2
            rw [Nat.add_assoc, hjj] at this
            exact ⟨_, this⟩
          have hfit : off + es.length * j.size ≤ c.size := by
            rcases Nat.eq_zero_or_pos (es.length * j.size) with h0 | h0
            · have := List.length_pos_iff.2 hne
              have := Nat.mul_pos this hp
              omega
            · obtain ⟨v, hv⟩ := hget (es.length * j.size - 1) (by omega)
              have := (Array.getElem?_eq_some_iff.1 hv).1
              omega
          have hg : ∀ k, k < es.length * j.size → ((c.toList.drop off).take (es.length * j.size))[k]? = c[off + k]? := fun k hk => by
            rw [List.getElem?_take_of_lt hk, List.getElem?_drop, Array.getElem?_toList]
          have hl : ((c.toList.drop off).take (es.length * j.size)).length = es.length * j.size := by simp; omega
          refine ⟨_, (c.toList.drop off).take (es.length * j.size), rfl, ?_, hl, fun i cs k x h1 h2 => ?_⟩
          · rw [f4]
            refine run_firstCells_some (P := P) w.drew j.size es.length ⟨b0, off, none⟩ es.length es.length _ hl (fun k v hk => ?_)
            have hkl : k < es.length * j.size := by
              have := (List.getElem?_eq_some_iff.1 hk).1
              omega
            rw [hg k hkl] at hk
            rw [add_mk, World.cell?_drew, cell_row hbw]
            exact hk
          · have hi : i < es.length := (List.getElem?_eq_some_iff.1 h1).1
            have hkk : k < j.size := by rw [← hsz' i cs h1]; exact (List.getElem?_eq_some_iff.1 h2).1
            have h3 := hv i cs k x h1 h2
            exact ⟨_, by rw [hg _ (mul_add_lt_mul hi hkk), ← Nat.add_assoc]; exact h3, hr i cs k x h1 h2, hc1 i cs k x h1 h2⟩
      have hfit : Builtin.nextslicecap (es.length + es2.length) es.length * infou.bytes ≤ 281474976710656 := growslice_fits (by omega) (by rw [f5]; exact hby)
      have hrun := run_append_grow_src (P := P) w t t' o.type u infou z e2 f1 hz1 base es.length es.length olds hold vb es2.length news hsrcw (by omega) h63 hfit
      have hge := grownCap_ge w (es.length + es2.length) es.length u
      have hcm : grownCap w (es.length + es2.length) es.length u ≤ maxLen := grownCap_le_maxLen w _ es.length u hml
      generalize hcc : grownCap w (es.length + es2.length) es.length u = nc at *
      generalize hC : (olds ++ news).toArray ++ Builtin.zeroCells z.cells (nc - (es.length + es2.length)) = C at *
      have hCs : C.size = nc * j.size := by
        rw [← hC, Array.size_append, size_zeroCells, hzl]
        simp only [List.size_toArray, List.length_append, hol, hnl, ← Nat.add_mul]
        congr 1; omega
      have hCg : ∀ k, k < olds.length + news.length → C[k]? = (olds ++ news)[k]? := fun k hk => by
        rw [← hC, Array.getElem?_append_left (by simp; omega)]
        simp
      have hnewsp : ∀ (i : Nat) (cs : List AV) (k : Nat) (y : AV), es2[i]? = some cs → cs[k]? = some y → ∃ v, news[i * j.size + k]? = some v ∧ Rel H noLay y v ∧ y.cell1 = true := fun i cs k y h1 h2 => by
        obtain ⟨v, k1, k2, k3⟩ := hnews i cs k y h1 h2
        exact ⟨v, k1, pure1_rel (List.all_eq_true.1 (hpure cs (List.mem_of_getElem? h1)) y (List.mem_of_getElem? h2)) k2, k3⟩
      refine ⟨_, C, u, w.drew, rfl, rfl, rfl, ?_, rowCells_append hol hnl hu2 (fun i cs h => hu cs (List.mem_of_getElem? h)) holdr hnewsp hCg, hexec _ _ (hv ▸ hrun), ?_⟩
      · rw [List.length_append, hCs]; exact Nat.mul_le_mul_right _ hge
      · have := Rel.refL (H := H) (lput ι b ⟨w.heap.size, j.size, (es ++ es2).length, C.size⟩) b (es ++ es2).length 0 (es ++ es2).length nc _ (lput_same _ _ _) rfl (by omega) (by rw [List.length_append]; exact hge) (by simp [hCs]) hcm
        simpa using this
end

theorem Ghost.trans {s s' s'' : AState} (g1 : Ghost s s') (g2 : Ghost s' s'') : Ghost s s'' := fun H ι a w hs => by
  obtain ⟨H1, ι1, h1, s1⟩ := g1 H ι a w hs
  obtain ⟨H2, ι2, h2, s2⟩ := g2 H1 ι1 a w h1
  exact ⟨H2, ι2, h2, Step.trans hs.heap s1 h1.heap s2⟩
theorem Ghost.weakSlot {n : Nat} {e : AEnv} {h : AHeap} (t : Nat) {x y : AV} (ht : e t = some x) (hxy : ∀ H ι v, Rel H ι x v → Rel H ι y v) : Ghost ⟨n, e, h⟩ ⟨n, eput e t y, h⟩ := fun H ι a w hs =>
  ⟨H, ι, ⟨hs.n, hs.d, fun u z hz => by
    by_cases hu : u = t
    · subst hu
      simp only [eput_same, Option.some.injEq] at hz
      subst hz
      obtain ⟨v, h1, h2⟩ := hs.env u _ ht
      exact ⟨v, h1, hxy _ _ _ h2⟩
    · simp only [eput_ne _ _ hu] at hz
      exact hs.env u z hz, hs.heap⟩, Step.refl _ _ _ _⟩
theorem nil_empty {H : Know} {ι : Lay} {v : Value} (h : Rel H ι .nil v) : Rel H ι (.lst false []) v := by
  rw [h.nil_inv]; exact .lst0 _ _ _ _ (fun h => by cases h) (Nat.zero_le _) (fun _ => rfl) trivial
/-- weaker values in a row -/
theorem Ghost.weakRow {n : Nat} {e : AEnv} {h : AHeap} (b : Nat) {sz : Nat} {es es' : List (List AV)} (hb : h b = some (.row true sz es)) (hl : es'.length = es.length)
    (hw : ∀ (i : Nat) (cs cs' : List AV), es[i]? = some cs → es'[i]? = some cs' → cs'.length = cs.length ∧ ∀ (j : Nat) (x y : AV), cs[j]? = some x → cs'[j]? = some y → y.cell1 = true ∧ ∀ H v, Rel H noLay x v → Rel H noLay y v) : Ghost ⟨n, e, h⟩ ⟨n, e, hput h b (.row true sz es')⟩ := fun H ι a w hs => by
  obtain ⟨r, hr, ⟨r1, r2, r3, r4, r5, r6⟩, r7⟩ := hs.heap.obj b _ hb rfl
  have hlput : lput ι b r = ι := by
    funext c
    by_cases hc : c = b
    · subst hc; rw [lput_same, hr]
    · rw [lput_ne _ _ hc]
  have old : ∀ (i : Nat) (cs' : List AV), es'[i]? = some cs' → ∃ cs, es[i]? = some cs := fun i cs' h => by
    have := (List.getElem?_eq_some_iff.1 h).1
    exact ⟨_, List.getElem?_eq_getElem (by omega)⟩
  have hlen : ∀ (i : Nat) (cs' : List AV), es'[i]? = some cs' → cs'.length = sz := fun i cs' h => by
    obtain ⟨cs, hc⟩ := old i cs' h
    rw [(hw i cs cs' hc h).1, r5 i cs hc]
  have := hs.heap.upd (w' := w) (o0 := .row true sz es) (o' := .row true sz es') (r' := r) hb rfl (.inr ⟨r, hr, rfl, .inl rfl⟩) (fun hs' => .inr ⟨r, hr, rfl, hs', rfl⟩) (fun _ _ _ => rfl) (Nat.le_refl _) rfl rfl
    ⟨r1, r2, by rw [hl]; exact r3, by rw [hl]; exact r4, hlen, fun hsol => by
      obtain ⟨c, TT, w1, w2, w3⟩ := r6 hsol
      exact ⟨c, TT, w1, w2, hlen, fun k ds q z hk hq => by
        obtain ⟨cs, hc⟩ := old k ds hk
        obtain ⟨e1, e2⟩ := hw k cs ds hc hk
        have hq' : q < cs.length := by rw [← e1]; exact (List.getElem?_eq_some_iff.1 hq).1
        have hx : cs[q]? = some cs[q] := List.getElem?_eq_getElem hq'
        obtain ⟨v, f1, f2, f3⟩ := w3.2 k cs q _ hc hx
        obtain ⟨g1, g2⟩ := e2 q _ z hx hq
        exact ⟨v, f1, g2 _ _ f2, g1⟩⟩⟩
  rw [hlput] at this
  exact ⟨H, ι, ⟨hs.n, hs.d, hs.env, this.1⟩, this.2⟩
theorem HSub.from_rm {h : AHeap} {k b : Nat} (hh : HSub (hFrom k) h) (hb : b < k) : HSub (hFrom k) (hrm h b) := fun c x hx => by
  have hne : c ≠ b := fun e => by
    subst e
    have h1 : Nat.blt c k = true := by rw [Nat.blt_eq]; exact hb
    simp only [hFrom, h1, cond_true] at hx
    cases hx
  rw [hrm_ne _ hne]; exact hh c x hx
/-- what came of it stays as it is -/
theorem Ghost.endJ {n : Nat} {e : AEnv} {h : AHeap} (t b : Nat) {f : Bool} {sz : Nat} {es : List (List AV)} (ht : e t = some (jAV f b es)) (hb : h b = some (jObj f sz es)) : Ghost ⟨n, e, h⟩ ⟨n, eput e t (.lst false es), hrm h b⟩ := by
  cases f with
  | false =>
    have := Ghost.freeze (n := n) t b ht hb rfl
    rwa [List.drop_zero, List.take_length] at this
  | true =>
    refine (Ghost.weakSlot t ht (fun H ι v h => rel_unex h)).trans (.of_sub ⟨rfl, fun _ _ h => h, fun c x hx => ?_⟩)
    by_cases hc : c = b
    · subst hc
      have : hrm h c c = some x := hx
      rw [hrm_same] at this; cases this
    · have : hrm h b c = some x := hx
      rwa [hrm_ne _ hc] at this
end Go.Proofs.Ytidfabbnobipkaa.Sv
