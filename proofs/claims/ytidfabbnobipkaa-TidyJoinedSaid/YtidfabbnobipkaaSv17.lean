/-
  WHAT CHANGES IN THOUGHT ALONE: less is known; a nil slice is a row of nothing; a row that is written no more is memory that stays as it is: own work, over no program.
-/
import Derived.Test.YtidfabbnobipkaaSv16
namespace Go.Proofs.Ytidfabbnobipkaa.Sv
open Go
set_option linter.unusedVariables false
set_option linter.unusedSimpArgs false

def Ghost (s s' : AState) : Prop := ∀ H ι a w, Sim H ι s a w → ∃ H' ι', Sim H' ι' s' a w ∧ Step H ι s.h w H' ι' s'.h w

section
variable {P : Program} {s s' : AState} {Q : Exit → AState → Prop} {K : AState → Prop} {ops : Array Oper} {l : List Oper}

theorem AGo.ghost {c : Code} (hg : Ghost s s') (h : AGo P c s' Q) : AGo P c s Q := fun H ι a w hs => by
  obtain ⟨H', ι', h1, h2⟩ := hg H ι a w hs
  exact wp_mono (h H' ι' a w h1) fun e a' w' hp => Post.step hs.heap h1.heap h2 hp

theorem Ghost.of_sub (h : Sub s' s) : Ghost s s' := fun H ι a w hs => by
  refine ⟨H, ι, hs.sub h, ⟨Nat.le_refl _, rfl, rfl, fun _ _ _ => rfl, KLe.refl _, fun _ h => .inl h, LLe.refl _, fun _ _ => rfl, fun _ _ h _ => .inl h, fun b hb => ?_⟩⟩
  cases e : s'.h b with
  | none => rfl
  | some o => rw [h.2.2 b o e] at hb; cases hb

theorem AGo.sub {c : Code} (hg : Sub s' s) (h : AGo P c s' Q) : AGo P c s Q := AGo.ghost (.of_sub hg) h

/-! ### states, one below the other -/
theorem Sub.refl (s : AState) : Sub s s := ⟨rfl, fun _ _ h => h, fun _ _ h => h⟩
theorem Sub.trans {a b c : AState} (h1 : Sub a b) (h2 : Sub b c) : Sub a c := ⟨h1.1.trans h2.1, fun t x h => h2.2.1 t x (h1.2.1 t x h), fun b o h => h2.2.2 b o (h1.2.2 b o h)⟩

def ESub (e e' : AEnv) : Prop := ∀ t x, e t = some x → e' t = some x
def HSub (h h' : AHeap) : Prop := ∀ b o, h b = some o → h' b = some o
theorem Sub.mk' {n : Nat} {e e' : AEnv} {h h' : AHeap} (h1 : ESub e e') (h2 : HSub h h') : Sub ⟨n, e, h⟩ ⟨n, e', h'⟩ := ⟨rfl, h1, h2⟩
theorem ESub.new (e : AEnv) : ESub eNew e := fun _ _ h => by cases h
theorem ESub.refl (e : AEnv) : ESub e e := fun _ _ h => h
theorem ESub.put {e e' : AEnv} {t : Nat} {v : AV} (h : ESub e e') (hv : e' t = some v) : ESub (eput e t v) e' := fun u x hx => by
  by_cases hu : u = t
  · subst hu; rw [eput_same] at hx; cases hx; exact hv
  · rw [eput_ne _ _ hu] at hx; exact h u x hx
/-- what is put on top isn't looked at -/
theorem ESub.up {e e' : AEnv} {t : Nat} {v : AV} (h : ESub e e') (hn : e t = none) : ESub e (eput e' t v) := fun u x hx => by
  by_cases hu : u = t
  · subst hu; rw [hn] at hx; cases hx
  · rw [eput_ne _ _ hu]; exact h u x hx
theorem HSub.refl (h : AHeap) : HSub h h := fun _ _ h => h
theorem HSub.put {h h' : AHeap} {b : Nat} {o : AObj} (hh : HSub h h') (ho : h' b = some o) : HSub (hput h b o) h' := fun c x hx => by
  by_cases hc : c = b
  · subst hc; rw [hput_same] at hx; cases hx; exact ho
  · rw [hput_ne _ _ hc] at hx; exact hh c x hx
/-- nothing but the ids from one on, free -/
def hFrom (k : Nat) : AHeap := fun b => bif Nat.blt b k then none else some .free
def hNone : AHeap := fun _ => none
theorem HSub.none (h : AHeap) : HSub hNone h := fun _ _ h => by cases h
theorem HSub.from_new (k : Nat) : HSub (hFrom k) hNew := fun b o h => by
  simp only [hFrom] at h
  cases hb : Nat.blt b k with
  | true => rw [hb] at h; cases h
  | false => rw [hb] at h; exact h
theorem HSub.from_from {j k : Nat} (hjk : j ≤ k) : HSub (hFrom k) (hFrom j) := fun b o h => by
  simp only [hFrom] at h ⊢
  cases hb : Nat.blt b k with
  | true => rw [hb] at h; cases h
  | false =>
    rw [hb] at h
    have : Nat.blt b j = false := by
      cases hb' : Nat.blt b j with
      | false => rfl
      | true =>
        rw [Nat.blt_eq] at hb'
        have : Nat.blt b k = true := by rw [Nat.blt_eq]; omega
        rw [this] at hb; cases hb
    rw [this]; exact h
/-- an id that is used lies below those that are free -/
theorem HSub.from_put {h : AHeap} {k b : Nat} {o : AObj} (hh : HSub (hFrom k) h) (hb : b < k) : HSub (hFrom k) (hput h b o) := fun c x hx => by
  by_cases hc : c = b
  · subst hc
    simp only [hFrom] at hx
    have : Nat.blt c k = true := by rw [Nat.blt_eq]; exact hb
    rw [this] at hx; cases hx
  · rw [hput_ne _ _ hc]; exact hh c x hx

/-! ### a row of nothing -/
theorem HeapRel.dry {H : Know} {ι : Lay} {h : AHeap} {w : World} (hr : HeapRel H ι h w) {b : Nat} (hb : h b = some .free) (p : Bool) {sz : Nat} (hsz : 0 < sz) :
    HeapRel H (lput ι b ⟨0, sz, 0, 0⟩) (hput h b (.row p sz [])) w ∧ Step H ι h w H (lput ι b ⟨0, sz, 0, 0⟩) (hput h b (.row p sz [])) w :=
  hr.upd (o0 := .free) hb rfl (.inl rfl) (fun hs => absurd rfl hs) (fun _ _ _ => rfl) (Nat.le_refl _) rfl rfl ⟨rfl, hsz, rfl, by simp, fun i cs h => by simp at h, fun hs => absurd rfl hs⟩

def isDry : AV → Bool
  | .nil => true
  | .lst true [] => true
  | _ => false

theorem dry_rel {H : Know} {ι : Lay} {x : AV} {v : Value} (hd : isDry x = true) (h : Rel H ι x v) {b : Nat} {r : Ent} (hr : ι b = some r) (hn : r.n = 0) (hc : r.csz = 0) : Rel H ι (.ref b 0 0 0) v := by
  cases x with
  | nil => rw [h.nil_inv]; exact .ref0 _ b r none hr hn hc trivial
  | lst ex es =>
    cases ex with
    | false => simp [isDry] at hd
    | true =>
      cases es with
      | cons => simp [isDry] at hd
      | nil =>
        rcases h.lst_inv with ⟨_, ad, cap, rfl, h1, h2, h3, h4⟩ | ⟨hne, _⟩
        · have := h1 rfl; subst this
          exact .ref0 _ b r ad hr hn hc h4
        · exact absurd rfl hne
  | _ => simp [isDry] at hd

theorem Ghost.dry {n : Nat} {e : AEnv} {h : AHeap} (t b sz : Nat) (p : Bool) {x : AV} (hx : e t = some x) (hd : isDry x = true) (hb : h b = some .free) (hsz : 0 < sz) : Ghost ⟨n, e, h⟩ ⟨n, eput e t (.ref b 0 0 0), hput h b (.row p sz [])⟩ := fun H ι a w hs => by
  obtain ⟨u1, u2⟩ := hs.heap.dry hb p hsz
  refine ⟨H, _, ⟨hs.n, hs.d, fun u y hy => ?_, u1⟩, u2⟩
  by_cases hu : u = t
  · subst hu
    simp only [eput_same, Option.some.injEq] at hy
    subst hy
    obtain ⟨v, h1, h2⟩ := hs.env u x hx
    exact ⟨v, h1, dry_rel hd (h2.mono (KLe.refl _) u2.lle) (lput_same _ _ _) rfl rfl⟩
  · simp only [eput_ne _ _ hu] at hy
    obtain ⟨v, h1, h2⟩ := hs.env u y hy
    exact ⟨v, h1, h2.mono (KLe.refl _) u2.lle⟩

/-- A cell of a row holds something else, as far as one sees. -/
theorem HeapRel.recell {H : Know} {ι : Lay} {h : AHeap} {w : World} (hr : HeapRel H ι h w) {b : Nat} {sz : Nat} {es : List (List AV)} {p : Bool} (hb : h b = some (.row p sz es)) {i j : Nat} {cs : List AV} {x y : AV} (hi : es[i]? = some cs) (hj : cs[j]? = some x)
    (hxy : ∀ v, Rel H (bif p then noLay else ι) x v → Rel H (bif p then noLay else ι) y v) (h1 : y.cell1 = true) : HeapRel H ι (hput h b (.row p sz (es.set i (cs.set j y)))) w ∧ Step H ι h w H ι (hput h b (.row p sz (es.set i (cs.set j y)))) w := by
  obtain ⟨r, hl, ⟨r1, r2, r3, r4, r5, r6⟩, r7⟩ := hr.obj b _ hb rfl
  have hlput : lput ι b r = ι := by
    funext c
    by_cases hc : c = b
    · subst hc; rw [lput_same, hl]
    · rw [lput_ne _ _ hc]
  have hilt : i < es.length := (List.getElem?_eq_some_iff.1 hi).1
  have hjlt : j < cs.length := (List.getElem?_eq_some_iff.1 hj).1
  have hget : ∀ (k : Nat) (ds : List AV), (es.set i (cs.set j y))[k]? = some ds → (k = i ∧ ds = cs.set j y) ∨ (k ≠ i ∧ es[k]? = some ds) := fun k ds hk => by
    by_cases hki : k = i
    · subst hki; rw [List.getElem?_set_self hilt] at hk; cases hk; exact .inl ⟨rfl, rfl⟩
    · rw [List.getElem?_set_ne (Ne.symm hki)] at hk; exact .inr ⟨hki, hk⟩
  have hu : ∀ (k : Nat) (ds : List AV), (es.set i (cs.set j y))[k]? = some ds → ds.length = sz := fun k ds hk => by
    rcases hget k ds hk with ⟨rfl, rfl⟩ | ⟨_, hk'⟩
    · rw [List.length_set]; exact r5 k cs hi
    · exact r5 k ds hk'
  have := hr.upd (w' := w) (o0 := .row p sz es) (o' := .row p sz (es.set i (cs.set j y))) (r' := r) hb rfl (.inr ⟨r, hl, rfl, .inl rfl⟩) (fun hs' => .inr ⟨r, hl, rfl, hs', rfl⟩) (fun _ _ _ => rfl) (Nat.le_refl _) rfl rfl
    ⟨r1, r2, by simp [r3], by simp; exact r4, hu, fun hsol => by
      obtain ⟨c, TT, w1, w2, w3⟩ := r6 hsol
      refine ⟨c, TT, w1, w2, hu, fun k ds q z hk hq => ?_⟩
      rw [hlput]
      rcases hget k ds hk with ⟨rfl, rfl⟩ | ⟨_, hk'⟩
      · by_cases hqj : q = j
        · subst hqj
          rw [List.getElem?_set_self hjlt] at hq; cases hq
          obtain ⟨v, f1, f2, f3⟩ := w3.2 k cs q x hi hj
          exact ⟨v, f1, hxy v f2, h1⟩
        · rw [List.getElem?_set_ne (Ne.symm hqj)] at hq
          exact w3.2 k cs q z hi hq
      · exact w3.2 k ds q z hk' hq⟩
  rwa [hlput] at this

theorem Ghost.dryCell {n : Nat} {e : AEnv} {h : AHeap} (b0 i j b sz : Nat) (p : Bool) {sz0 : Nat} {es : List (List AV)} {cs : List AV} {x : AV} (hb0 : h b0 = some (.row false sz0 es)) (hi : es[i]? = some cs) (hj : cs[j]? = some x) (hd : isDry x = true) (hb : h b = some .free) (hsz : 0 < sz) :
    Ghost ⟨n, e, h⟩ ⟨n, e, hput (hput h b (.row p sz [])) b0 (.row false sz0 (es.set i (cs.set j (.ref b 0 0 0))))⟩ := fun H ι a w hs => by
  obtain ⟨u1, u2⟩ := hs.heap.dry hb p hsz
  have hne : b0 ≠ b := fun hh => by subst hh; rw [hb0] at hb; cases hb
  obtain ⟨v1, v2⟩ := u1.recell (b := b0) (p := false) (y := .ref b 0 0 0) (by rw [hput_ne _ _ hne]; exact hb0) hi hj (fun v hv => dry_rel hd hv (lput_same _ _ _) rfl rfl) rfl
  refine ⟨H, _, ⟨hs.n, hs.d, fun u y hy => ?_, v1⟩, u2.trans hs.heap u1 v2⟩
  obtain ⟨v, h1, h2⟩ := hs.env u y hy
  exact ⟨v, h1, h2.mono (KLe.refl _) u2.lle⟩

/-! ### memory that stays as it is from now on -/
def hrm (h : AHeap) (b : Nat) : AHeap := fun x => bif Nat.beq x b then none else h x
theorem hrm_same (h : AHeap) (b : Nat) : hrm h b b = none := by simp [hrm]
theorem hrm_ne (h : AHeap) {b x : Nat} (hne : x ≠ b) : hrm h b x = h x := by simp only [hrm, beq_false_of_ne hne, cond_false]

theorem HeapRel.freeze {H : Know} {ι : Lay} {h : AHeap} {w : World} (hr : HeapRel H ι h w) {b sz : Nat} {es : List (List AV)} (hb : h b = some (.row true sz es)) :
    ∃ H', HeapRel H' ι (hrm h b) w ∧ Step H ι h w H' ι (hrm h b) w ∧ KLe H H' ∧ ∀ (ι' : Lay) (v : Value) (off len : Nat), Rel H ι (.ref b es.length off len) v → Rel H' ι' (.lst false ((es.drop off).take len)) v := by
  obtain ⟨r, hl, ⟨r1, r2, r3, r4, r5, r6⟩, r7⟩ := hr.obj b _ hb rfl
  have hsubh : ∀ x o, hrm h b x = some o → h x = some o := fun x o hx => by
    by_cases hxb : x = b
    · subst hxb; rw [hrm_same] at hx; cases hx
    · rwa [hrm_ne _ hxb] at hx
  have hdom : ∀ x, h x = none → hrm h b x = none := fun x hx => by
    cases e : hrm h b x with
    | none => rfl
    | some o => rw [hsubh x o e] at hx; cases hx
  by_cases hsol : r.csz = 0
  · refine ⟨H, hr.sub hsubh, ⟨Nat.le_refl _, rfl, rfl, fun _ _ _ => rfl, KLe.refl _, fun _ h => .inl h, LLe.refl _, fun _ _ => rfl, fun _ _ h _ => .inl h, hdom⟩, KLe.refl _, fun ι' v off len hv => ?_⟩
    obtain ⟨h0, ad, rfl, hsp⟩ := hv.ref_dry hl (by omega) hsol (by omega)
    subst h0
    simp only [List.take_zero]
    exact .lst0 _ _ _ _ (fun h => by cases h) (Nat.zero_le _) (fun _ => rfl) hsp
  · obtain ⟨c, TT, w1, w2, w3⟩ := r6 hsol
    have hnone : H r.rb = none := r7 hsol
    have hkle : KLe H (kput H r.rb c) := fun x c' e => by
      rw [kput_ne _ _ (fun hx => by subst hx; rw [hnone] at e; cases e)]; exact e
    have hsub := hr.sub hsubh
    refine ⟨kput H r.rb c, ⟨fun x c' e => ?_, hsub.free, fun x o h1 h2 => ?_, hsub.inj⟩, ⟨Nat.le_refl _, rfl, rfl, fun _ _ _ => rfl, hkle, fun x hx => ?_, LLe.refl _, fun _ _ => rfl, fun _ _ h _ => .inl h, hdom⟩, hkle, fun ι' v off len hv => ?_⟩
    · by_cases hx : x = r.rb
      · subst hx; rw [kput_same] at e; cases e; exact ⟨TT, (0, 0), w1⟩
      · rw [kput_ne _ _ hx] at e; exact hr.know x c' e
    · obtain ⟨r', e1, e2, e3⟩ := hsub.obj x o h1 h2
      refine ⟨r', e1, e2.mono hkle (LLe.refl _) (fun _ => rfl), fun hs' => ?_⟩
      have hxb : x ≠ b := fun hx => by subst hx; rw [hrm_same] at h1; cases h1
      rw [kput_ne _ _ (hr.inj x b o _ r' r (hsubh _ _ h1) h2 hb rfl e1 hl hs' hsol hxb)]
      exact e3 hs'
    · by_cases hx' : x = r.rb
      · subst hx'; exact .inr (.inr ⟨b, _, r, hb, rfl, hl, hsol, rfl⟩)
      · rw [kput_ne _ _ hx'] at hx; exact .inl hx
    · obtain ⟨hlen, cap, rfl, hlc, hcap, hmax⟩ := hv.ref_live hl (by omega) hsol
      have hll : ((es.drop off).take len).length = len := by simp; omega
      by_cases h0 : len = 0
      · subst h0
        simp only [List.take_zero]
        exact .lst0 _ _ _ _ (fun h => by cases h) hmax (fun h => by cases h) trivial
      · have hg : ∀ (k : Nat) (cs : List AV), ((es.drop off).take len)[k]? = some cs → es[off + k]? = some cs := fun k cs hk => by
          have hlt : k < len := by
            rcases Nat.lt_or_ge k len with h | h
            · exact h
            · rw [List.getElem?_eq_none (by omega)] at hk; cases hk
          rwa [List.getElem?_take_of_lt hlt, List.getElem?_drop] at hk
        have := Rel.lst (H := kput H r.rb c) ι' false ((es.drop off).take len) r.rb (off * r.sz) cap sz c (fun k q => (c[(off + k) * sz + q]?).getD undef) (fun hh => by rw [hh] at hll; simp at hll; omega) (kput_same _ _ _)
          (fun k cs hk => r5 _ cs (hg k cs hk)) (fun k cs q x hk hq => by
            obtain ⟨u, f1, _⟩ := w3.2 (off + k) cs q x (hg k cs hk) hq
            rw [r1, ← Nat.add_mul, f1]; rfl)
          (fun k cs q x hk hq => by
            obtain ⟨u, f1, f2, _⟩ := w3.2 (off + k) cs q x (hg k cs hk) hq
            rw [f1]; exact f2.mono hkle (LLe.refl _))
          (fun k cs q x hk hq => by obtain ⟨u, _, _, f3⟩ := w3.2 (off + k) cs q x (hg k cs hk) hq; exact f3) (fun h => by cases h) (by omega) hmax
        rw [hll] at this
        exact this

theorem Ghost.freeze {n : Nat} {e : AEnv} {h : AHeap} (t b : Nat) {m off len sz : Nat} {es : List (List AV)} (ht : e t = some (.ref b m off len)) (hb : h b = some (.row true sz es)) (hm : m = es.length) :
    Ghost ⟨n, e, h⟩ ⟨n, eput e t (.lst false ((es.drop off).take len)), hrm h b⟩ := fun H ι a w hs => by
  obtain ⟨H', u1, u2, u3, u4⟩ := hs.heap.freeze hb
  subst hm
  refine ⟨H', ι, ⟨hs.n, hs.d, fun u y hy => ?_, u1⟩, u2⟩
  by_cases hu : u = t
  · subst hu
    simp only [eput_same, Option.some.injEq] at hy
    subst hy
    obtain ⟨v, h1, h2⟩ := hs.env u _ ht
    exact ⟨v, h1, u4 ι v off len h2⟩
  · simp only [eput_ne _ _ hu] at hy
    obtain ⟨v, h1, h2⟩ := hs.env u y hy
    exact ⟨v, h1, h2.mono u3 (LLe.refl _)⟩

theorem Ghost.freezeCell {n : Nat} {e : AEnv} {h : AHeap} (b0 i j b : Nat) {sz0 m off len sz : Nat} {es0 : List (List AV)} {cs : List AV} {es : List (List AV)} (hb0 : h b0 = some (.row false sz0 es0)) (hi : es0[i]? = some cs) (hj : cs[j]? = some (.ref b m off len)) (hb : h b = some (.row true sz es)) (hm : m = es.length) (hne : b0 ≠ b) :
    Ghost ⟨n, e, h⟩ ⟨n, e, hput (hrm h b) b0 (.row false sz0 (es0.set i (cs.set j (.lst false ((es.drop off).take len)))))⟩ := fun H ι a w hs => by
  subst hm
  obtain ⟨r, hl, ⟨r1, r2, r3, r4, r5, r6⟩, r7⟩ := hs.heap.obj b0 _ hb0 rfl
  obtain ⟨H', u1, u2, u3, u4⟩ := hs.heap.freeze hb
  have hilt : i < es0.length := (List.getElem?_eq_some_iff.1 hi).1
  have hjlt : j < cs.length := (List.getElem?_eq_some_iff.1 hj).1
  have hlput : lput ι b0 r = ι := by
    funext c
    by_cases hc : c = b0
    · subst hc; rw [lput_same, hl]
    · rw [lput_ne _ _ hc]
  have hget : ∀ (k : Nat) (ds : List AV), (es0.set i (cs.set j (.lst false ((es.drop off).take len))))[k]? = some ds → (k = i ∧ ds = cs.set j (.lst false ((es.drop off).take len))) ∨ (k ≠ i ∧ es0[k]? = some ds) := fun k ds hk => by
    by_cases hki : k = i
    · subst hki; rw [List.getElem?_set_self hilt] at hk; cases hk; exact .inl ⟨rfl, rfl⟩
    · rw [List.getElem?_set_ne (Ne.symm hki)] at hk; exact .inr ⟨hki, hk⟩
  have hu : ∀ (k : Nat) (ds : List AV), (es0.set i (cs.set j (.lst false ((es.drop off).take len))))[k]? = some ds → ds.length = sz0 := fun k ds hk => by
    rcases hget k ds hk with ⟨rfl, rfl⟩ | ⟨_, hk'⟩
    · rw [List.length_set]; exact r5 k cs hi
    · exact r5 k ds hk'
  have := u1.upd (w' := w) (b := b0) (o0 := .row false sz0 es0) (o' := .row false sz0 (es0.set i (cs.set j (.lst false ((es.drop off).take len))))) (r' := r) (by rw [hrm_ne _ hne]; exact hb0) rfl (.inr ⟨r, hl, rfl, .inl rfl⟩) (fun hs' => .inr ⟨r, hl, rfl, hs', rfl⟩) (fun _ _ _ => rfl) (Nat.le_refl _) rfl rfl
    ⟨r1, r2, by simp [r3], by simp; exact r4, hu, fun hsol => by
      obtain ⟨c, TT, w1, w2, w3⟩ := r6 hsol
      refine ⟨c, TT, w1, w2, hu, fun k ds q z hk hq => ?_⟩
      rw [hlput]
      rcases hget k ds hk with ⟨rfl, rfl⟩ | ⟨_, hk'⟩
      · by_cases hqj : q = j
        · subst hqj
          rw [List.getElem?_set_self hjlt] at hq; cases hq
          obtain ⟨v, f1, f2, f3⟩ := w3.2 k cs q _ hi hj
          exact ⟨v, f1, u4 ι v off len f2, rfl⟩
        · rw [List.getElem?_set_ne (Ne.symm hqj)] at hq
          obtain ⟨v, f1, f2, f3⟩ := w3.2 k cs q z hi hq
          exact ⟨v, f1, f2.mono u3 (LLe.refl _), f3⟩
      · obtain ⟨v, f1, f2, f3⟩ := w3.2 k ds q z hk' hq
        exact ⟨v, f1, f2.mono u3 (LLe.refl _), f3⟩⟩
  rw [hlput] at this
  refine ⟨H', ι, ⟨hs.n, hs.d, fun u y hy => ?_, this.1⟩, u2.trans hs.heap u1 this.2⟩
  obtain ⟨v, h1, h2⟩ := hs.env u y hy
  exact ⟨v, h1, h2.mono u3 (LLe.refl _)⟩

/-- A row of plain data. -/
theorem Ghost.plain {n : Nat} {e : AEnv} {h : AHeap} (b : Nat) {sz : Nat} {es : List (List AV)} (hb : h b = some (.row false sz es)) (hp : ∀ cs ∈ es, cs.all AV.isPure1 = true) : Ghost ⟨n, e, h⟩ ⟨n, e, hput h b (.row true sz es)⟩ := fun H ι a w hs => by
  obtain ⟨r, hl, ⟨r1, r2, r3, r4, r5, r6⟩, r7⟩ := hs.heap.obj b _ hb rfl
  have hlput : lput ι b r = ι := by
    funext c
    by_cases hc : c = b
    · subst hc; rw [lput_same, hl]
    · rw [lput_ne _ _ hc]
  have := hs.heap.upd (w' := w) (o0 := .row false sz es) (o' := .row true sz es) (r' := r) hb rfl (.inr ⟨r, hl, rfl, .inl rfl⟩) (fun hs' => .inr ⟨r, hl, rfl, hs', rfl⟩) (fun _ _ _ => rfl) (Nat.le_refl _) rfl rfl
    ⟨r1, r2, r3, r4, r5, fun hsol => by
      obtain ⟨c, TT, w1, w2, w3⟩ := r6 hsol
      exact ⟨c, TT, w1, w2, w3.1, fun k ds q z hk hq => by
        obtain ⟨v, f1, f2, f3⟩ := w3.2 k ds q z hk hq
        exact ⟨v, f1, pure1_rel (List.all_eq_true.1 (hp ds (List.mem_of_getElem? hk)) z (List.mem_of_getElem? hq)) f2, f3⟩⟩⟩
  rw [hlput] at this
  exact ⟨H, ι, ⟨hs.n, hs.d, hs.env, this.1⟩, this.2⟩

end
end Go.Proofs.Ytidfabbnobipkaa.Sv
