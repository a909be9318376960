/-
  ROWS THAT ARE NEEDED NO MORE ARE FORGOTTEN, AND THEIR NUMBERS ARE FREE AGAIN (for loops that make rows in each round): own work, over no program.
-/
import Derived.Test.YtidfabbnobipkaaSv18
namespace Go.Proofs.Ytidfabbnobipkaa.Sv
open Go
set_option linter.unusedVariables false
set_option linter.unusedSimpArgs false

/-- Its rows are among k's (and it has no parts). -/
def AV.flat (k : Nat → Bool) : AV → Bool
  | .ref b _ _ _ => k b
  | .ptr b _ _ _ => k b
  | .map b => k b
  | .agg _ => false
  | .tup _ => false
  | .fn _ _ _ => false
  | _ => true
/-- Its rows are among k's. -/
def AV.avoid (k : Nat → Bool) : AV → Bool
  | .agg cs => cs.all (AV.flat k)
  | .tup cs => cs.all (AV.flat k)
  | .fn _ xs cs => xs.all (AV.flat k) && cs.all (AV.flat k)
  | x => x.flat k
def AObj.avoid (k : Nat → Bool) : AObj → Bool
  | .row true _ _ => true
  | .row false _ es => es.all (fun cs => cs.all (AV.avoid k))
  | _ => true

def lcut (ι : Lay) (k : Nat → Bool) : Lay := fun b => bif k b then ι b else none
theorem lcut_lt {ι : Lay} {k : Nat → Bool} {b : Nat} (h : k b = true) : lcut ι k b = ι b := by simp [lcut, h]
theorem lcut_some {ι : Lay} {k : Nat → Bool} {b : Nat} {r : Ent} (h : lcut ι k b = some r) : ι b = some r := by
  unfold lcut at h
  cases e : k b with
  | true => rw [e] at h; exact h
  | false => rw [e] at h; cases h

theorem flat_rel {H : Know} {ι : Lay} {k : Nat → Bool} {x : AV} {v : Value} (h : Rel H ι x v) (hf : x.flat k = true) : Rel H (lcut ι k) x v := by
  cases h with
  | bool => exact .bool _ _
  | int => exact .int _ _ _
  | str => exact .str _ _
  | nil => exact .nil _
  | nilp => exact .nilp _
  | lst0 _ ex a cap hex hcap hn hsp => exact .lst0 _ ex a cap hex hcap hn hsp
  | lst _ ex es b off cap sz c vals hne hb hsz hv hr hc1 hex hcap hmax => exact .lst _ ex es b off cap sz c vals hne hb hsz hv hr hc1 hex hcap hmax
  | loc _ cs b off c vals hb hv hr hc1 => exact .loc _ cs b off c vals hb hv hr hc1
  | refL _ b n off len cap r hr hn hlen hlc hcap hmax => exact .refL _ b n off len cap r (by rw [lcut_lt hf]; exact hr) hn hlen hlc hcap hmax
  | ref0 _ b r a hr hn hc hsp => exact .ref0 _ b r a (by rw [lcut_lt hf]; exact hr) hn hc hsp
  | refS _ b n off len r a cap hr hn => exact .refS _ b n off len r a cap (by rw [lcut_lt hf]; exact hr) hn
  | ptrL _ b n i o r hr hn => exact .ptrL _ b n i o r (by rw [lcut_lt hf]; exact hr) hn
  | ptrS _ b n i o r a hr hn => exact .ptrS _ b n i o r a (by rw [lcut_lt hf]; exact hr) hn
  | map _ b r hr hn => exact .map _ b r (by rw [lcut_lt hf]; exact hr) hn
  | agg => cases hf
  | tup => cases hf
  | fn => cases hf

theorem all_get {α : Type} {l : List α} {p : α → Bool} (h : l.all p = true) {j : Nat} {x : α} (hj : l[j]? = some x) : p x = true :=
  List.all_eq_true.1 h x (List.mem_of_getElem? hj)

theorem avoid_rel {H : Know} {ι : Lay} {k : Nat → Bool} {x : AV} {v : Value} (h : Rel H ι x v) (hf : x.avoid k = true) : Rel H (lcut ι k) x v := by
  cases h with
  | agg _ cs vs hl hr => exact .agg _ cs vs hl fun j x v h1 h2 => flat_rel (hr j x v h1 h2) (all_get hf h1)
  | tup _ cs vs hl hr => exact .tup _ cs vs hl fun j x v h1 h2 => flat_rel (hr j x v h1 h2) (all_get hf h1)
  | fn _ f xs cs us vs hx hl h1 h2 =>
    simp only [AV.avoid, Bool.and_eq_true] at hf
    exact .fn _ f xs cs us vs hx hl (fun j x v g1 g2 => flat_rel (h1 j x v g1 g2) (all_get hf.1 g1)) (fun j x v g1 g2 => flat_rel (h2 j x v g1 g2) (all_get hf.2 g1))
  | bool => exact .bool _ _
  | int => exact .int _ _ _
  | str => exact .str _ _
  | nil => exact .nil _
  | nilp => exact .nilp _
  | lst0 _ ex a cap hex hcap hn hsp => exact .lst0 _ ex a cap hex hcap hn hsp
  | lst _ ex es b off cap sz c vals hne hb hsz hv hr hc1 hex hcap hmax => exact .lst _ ex es b off cap sz c vals hne hb hsz hv hr hc1 hex hcap hmax
  | loc _ cs b off c vals hb hv hr hc1 => exact .loc _ cs b off c vals hb hv hr hc1
  | refL _ b n off len cap r hr hn hlen hlc hcap hmax => exact flat_rel (.refL _ b n off len cap r hr hn hlen hlc hcap hmax) hf
  | ref0 _ b r a hr hn hc hsp => exact flat_rel (.ref0 _ b r a hr hn hc hsp) hf
  | refS _ b n off len r a cap hr hn => exact flat_rel (.refS _ b n off len r a cap hr hn) hf
  | ptrL _ b n i o r hr hn => exact flat_rel (.ptrL _ b n i o r hr hn) hf
  | ptrS _ b n i o r a hr hn => exact flat_rel (.ptrS _ b n i o r a hr hn) hf
  | map _ b r hr hn => exact flat_rel (.map _ b r hr hn) hf

theorem objOk_cut {H : Know} {ι : Lay} {w : World} {r : Ent} {o : AObj} {k : Nat → Bool} (h : ObjOk H ι w r o) (ha : o.avoid k = true) : ObjOk H (lcut ι k) w r o := by
  cases o with
  | free => trivial
  | map kvs => exact h
  | row p sz es =>
    obtain ⟨h1, h2, h3, h4, h5, h6⟩ := h
    refine ⟨h1, h2, h3, h4, h5, fun hs => ?_⟩
    obtain ⟨c, T, c1, c2, c3, c4⟩ := h6 hs
    refine ⟨c, T, c1, c2, c3, ?_⟩
    cases p with
    | true => exact c4
    | false =>
      intro i cs j x e1 e2
      obtain ⟨v, v1, v2, v3⟩ := c4 i cs j x e1 e2
      exact ⟨v, v1, avoid_rel v2 (all_get (all_get ha e1) e2), v3⟩

/-- the numbers below k -/
abbrev below (k : Nat) : Nat → Bool := fun b => Nat.blt b k

/-- nil is a list of nothing -/
theorem Ghost.empty {n : Nat} {e : AEnv} {h : AHeap} (t : Nat) (ht : e t = some .nil) : Ghost ⟨n, e, h⟩ ⟨n, eput e t (.lst false []), h⟩ := fun H ι a w hs =>
  ⟨H, ι, ⟨hs.n, hs.d, fun u y hy => by
    by_cases hu : u = t
    · subst hu
      simp only [eput_same, Option.some.injEq] at hy
      subst hy
      obtain ⟨v, h1, h2⟩ := hs.env u _ ht
      exact ⟨v, h1, by rw [h2.nil_inv]; exact .lst0 _ _ _ _ (fun h => by cases h) (Nat.zero_le _) (fun _ => rfl) trivial⟩
    · simp only [eput_ne _ _ hu] at hy
      exact hs.env u y hy, hs.heap⟩, Step.refl _ _ _ _⟩

def EDrop (k : Nat) (e' e : AEnv) : Prop := ∀ t x, e' t = some x → e t = some x ∧ x.avoid (below k) = true
def HDrop (k : Nat) (h' h : AHeap) : Prop := ∀ b o, h' b = some o → (h b = some o ∧ (o.alive = true → Nat.blt b k = true ∧ o.avoid (below k) = true)) ∨ (o = .free ∧ Nat.blt b k = false)

theorem EDrop.new (k : Nat) (e : AEnv) : EDrop k eNew e := fun _ _ h => by cases h
theorem EDrop.put {k : Nat} {e' e : AEnv} {t : Nat} {v : AV} (h : EDrop k e' e) (hv : e t = some v) (ha : v.avoid (below k) = true) : EDrop k (eput e' t v) e := fun u x hx => by
  by_cases hu : u = t
  · subst hu; rw [eput_same] at hx; cases hx; exact ⟨hv, ha⟩
  · rw [eput_ne _ _ hu] at hx; exact h u x hx
theorem HDrop.none (k : Nat) (h : AHeap) : HDrop k hNone h := fun _ _ h => by cases h
theorem HDrop.put {k : Nat} {h' h : AHeap} {b : Nat} {o : AObj} (hh : HDrop k h' h) (ho : h b = some o) (hb : Nat.blt b k = true) (ha : o.avoid (below k) = true) : HDrop k (hput h' b o) h := fun c x hx => by
  by_cases hc : c = b
  · subst hc; rw [hput_same] at hx; cases hx; exact .inl ⟨ho, fun _ => ⟨hb, ha⟩⟩
  · rw [hput_ne _ _ hc] at hx; exact hh c x hx
theorem HDrop.tail (k : Nat) (h : AHeap) : HDrop k (hFrom k) h := fun b o hx => by
  have hk : Nat.blt b k = false := by
    cases e : Nat.blt b k with
    | false => rfl
    | true => simp only [hFrom, e, cond_true] at hx; cases hx
  have ho : o = .free := by simp only [hFrom, hk, cond_false, Option.some.injEq] at hx; exact hx.symm
  exact .inr ⟨ho, hk⟩

/-- s'' is s' without what lies from k on. -/
structure Drop (k : Nat) (s'' s' : AState) : Prop where
  n : s''.n = s'.n
  e : EDrop k s''.env s'.env
  h : HDrop k s''.h s'.h
theorem Drop.mk' {k n : Nat} {e' e : AEnv} {h' h : AHeap} (h1 : EDrop k e' e) (h2 : HDrop k h' h) : Drop k ⟨n, e', h'⟩ ⟨n, e, h⟩ := ⟨rfl, h1, h2⟩

theorem Sim.cut {H : Know} {ι : Lay} {s s' : AState} {a : Act} {w : World} {k : Nat} (hs : Sim H ι s a w) (hd : Drop k s' s) : Sim H (lcut ι (below k)) s' a w := by
  have hal : ∀ b o, s'.h b = some o → o.alive = true → s.h b = some o ∧ Nat.blt b k = true ∧ o.avoid (below k) = true := fun b o h1 h2 => by
    rcases hd.h b o h1 with ⟨g1, g2⟩ | ⟨g1, _⟩
    · exact ⟨g1, g2 h2⟩
    · subst g1; cases h2
  refine ⟨hs.n.trans hd.n.symm, hs.d, fun t x hx => ?_, ⟨hs.heap.know, fun b hb => ?_, fun b o h1 h2 => ?_, fun b b' o o' r r' h1 h2 h3 h4 h5 h6 => ?_⟩⟩
  · obtain ⟨g1, g2⟩ := hd.e t x hx
    obtain ⟨v, v1, v2⟩ := hs.env t x g1
    exact ⟨v, v1, avoid_rel v2 g2⟩
  · rcases hd.h b _ hb with ⟨g1, _⟩ | ⟨_, g2⟩
    · have := hs.heap.free b g1
      unfold lcut; rw [this]; cases below k b <;> rfl
    · unfold lcut; rw [show below k b = false from g2]; rfl
  · obtain ⟨g1, g2, g3⟩ := hal b o h1 h2
    obtain ⟨r, r1, r2, r3⟩ := hs.heap.obj b o g1 h2
    exact ⟨r, by rw [lcut_lt (k := below k) g2]; exact r1, objOk_cut r2 g3, r3⟩
  · exact hs.heap.inj b b' o o' r r' (hal b o h1 h2).1 h2 (hal b' o' h3 h4).1 h4 (lcut_some h5) (lcut_some h6)

theorem Step.cut {H : Know} {ι : Lay} {h h1 h' : AHeap} {w : World} {H' : Know} {ι' : Lay} {w' : World} {k : Nat} (hr : HeapRel H ι h w) (hf : ∀ b, Nat.blt b k = false → h b = some .free)
    (st : Step H ι h w H' ι' h1 w') (hd : HDrop k h' h1) : Step H ι h w H' (lcut ι' (below k)) h' w' where
  size := st.size
  os := st.os
  out := st.out
  keep := st.keep
  kle := st.kle
  knew := st.knew
  lle := fun b r e => by
    cases hb : Nat.blt b k with
    | false => rw [hr.free b (hf b hb)] at e; cases e
    | true => rw [lcut_lt (k := below k) hb]; exact st.lle b r e
  lframe := fun b e => by
    cases hb : Nat.blt b k with
    | false => rw [hf b hb] at e; cases e
    | true => rw [lcut_lt (k := below k) hb]; exact st.lframe b e
  newrb := fun b r' e => st.newrb b r' (lcut_some e)
  dom := fun b e => by
    have e1 := st.dom b e
    cases e2 : h' b with
    | none => rfl
    | some o =>
      rcases hd b o e2 with ⟨g, _⟩ | ⟨_, g⟩
      · rw [g] at e1; cases e1
      · rw [hf b g] at e; cases e

section
variable {P : Program} {s : AState} {Q : Exit → AState → Prop}

theorem AGo.cut {c : Code} {K : AState → Prop} (k : Nat) (hf : ∀ b, Nat.blt b k = false → s.h b = some .free) (h : AGo P c s (Then (fun s1 => ∃ s2, Drop k s2 s1 ∧ K s2) Q)) : AGo P c s (Then K Q) := fun H ι a w hs =>
  wp_mono (h H ι a w hs) fun e a' w' hp => by
    obtain ⟨s', H', ι', q, r, t⟩ := hp
    cases e with
    | normal =>
      obtain ⟨s2, d, k2⟩ := q
      exact ⟨s2, H', _, k2, r.cut d, t.cut hs.heap hf d.h⟩
    | _ => exact ⟨s', H', ι', q, r, t⟩

/-- Ways come together. -/
theorem AGo.join {γ : Type} {c : Code} (inv : γ → AState) (F : γ → Prop) (h : AGo P c s (Then (fun s' => ∃ g, Sub (inv g) s' ∧ F g) Q)) (k : ∀ g, F g → Q .normal (inv g)) : AGo P c s Q := fun H ι a w hs =>
  wp_mono (h H ι a w hs) fun e a' w' hp => by
    obtain ⟨s', H', ι', q, r, t⟩ := hp
    cases e with
    | normal =>
      obtain ⟨g, d, hF⟩ := q
      obtain ⟨H2, ι2, r2, t2⟩ := Ghost.of_sub d H' ι' a' w' r
      exact ⟨_, H2, ι2, k g hF, r2, t.trans hs.heap r.heap t2⟩
    | _ => exact ⟨s', H', ι', q, r, t⟩

theorem hFrom_free {k b : Nat} (h : Nat.blt b k = false) : hFrom k b = some .free := by simp only [hFrom, h, cond_false]
theorem hput_free {h : AHeap} {k c : Nat} {o : AObj} (hf : ∀ b, Nat.blt b k = false → h b = some .free) (hc : Nat.blt c k = true) : ∀ b, Nat.blt b k = false → hput h c o b = some .free := fun b hb => by
  have hne : b ≠ c := fun e => by subst e; rw [hc] at hb; cases hb
  rw [hput_ne _ _ hne]; exact hf b hb

/-- A loop: 'inv g' is all that is known at a round's head, F g what holds of g; what a round made is forgotten. -/
theorem AGo.loopD {γ : Type} {c : Code} (k : Nat) (inv : γ → AState) (F : γ → Prop) (μ : γ → Nat) (g0 : γ) (h0 : Sub (inv g0) s) (hF : F g0) (hf : ∀ g b, Nat.blt b k = false → (inv g).h b = some .free)
    (round : ∀ g, F g → AGo P c (inv g) (Then (fun s' => ∃ g', Drop k (inv g') s' ∧ F g' ∧ μ g' < μ g) Q)) : AGo P (.loop c) s Q :=
  AGo.loopI inv F μ g0 h0 hF fun g hg => AGo.cut k (hf g) ((round g hg).mono fun e s'' hq => by
    cases e with
    | normal => obtain ⟨g', h1, h2, h3⟩ := hq; exact ⟨inv g', h1, g', Sub.refl _, h2, h3⟩
    | _ => exact hq)
end
end Go.Proofs.Ytidfabbnobipkaa.Sv
