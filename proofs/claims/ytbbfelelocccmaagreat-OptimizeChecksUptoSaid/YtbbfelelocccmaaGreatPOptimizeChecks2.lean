/-
  ROWS THAT ARE NEEDED NO MORE ARE FORGOTTEN, AND THEIR NUMBERS ARE FREE AGAIN (for loops that make rows in each round): own work, over no program.
-/
import Derived.Test.YtbbfelelocccmaaGreatPOptimizeChecks1
import Derived.MapKept
import Derived.ProofKit
import Derived.OpenShut
import Derived.SizedLaws
import Derived.Test.YtbbfelelocccmaaGreatProg
import Derived.KernelRfl
import Derived.Test.YtbbfelelocccmaaGreatRows
import Derived.Scope
import Derived.Lib.SliceRun
import Derived.Laws.BytesString
import Derived.Lib.ConvBytes
import Derived.WideKeyRuns
set_option linter.unusedVariables false
set_option linter.unusedSimpArgs false
set_option maxRecDepth 100000
set_option maxHeartbeats 2000000
namespace Go.Proofs.YtbbfelelocccmaaGreat.Sv
open Go
def AV.flat (k : Nat → Bool) : AV → Bool
  | .ref b _ _ _ => k b
  | .ptr b _ _ _ => k b
  | .map b => k b
  | .agg _ => false
  | .tup _ => false
  | .fn _ _ _ => false
  | _ => true
def AV.flat2 (k : Nat → Bool) : AV → Bool
  | .agg cs => cs.all (AV.flat k)
  | x => x.flat k
def AV.avoid (k : Nat → Bool) : AV → Bool
  | .agg cs => cs.all (AV.flat k)
  | .tup cs => cs.all (AV.flat2 k)
  | .fn _ xs cs => xs.all (AV.flat k) && cs.all (AV.flat k)
  | x => x.flat k
def AObj.avoid (k : Nat → Bool) : AObj → Bool
  | .row true _ _ => true
  | .row false _ es => es.all (fun cs => cs.all (AV.avoid k))
  | _ => true
def lcut (ι : Lay) (k : Nat → Bool) : Lay := fun b => bif k b then ι b else none
theorem lcut_lt {ι : Lay} {k : Nat → Bool} {b : Nat} (h : k b = true) : lcut ι k b = ι b := by simp [lcut, h]
theorem lcut_some {ι : Lay} {k : Nat → Bool} {b : Nat} {r : Ent} (h : lcut ι k b = some r) : ι b = some r := by
  unfold lcut at h
  cases e : k b with
  | true => rw [e] at h; exact h
  | false => rw [e] at h; cases h
theorem flat_rel {H : Know} {ι : Lay} {k : Nat → Bool} {x : AV} {v : Value} (h : Rel H ι x v) (hf : x.flat k = true) : Rel H (lcut ι k) x v := by
  cases h with
  | bool => exact .bool _ _
  | int => exact .int _ _ _
  | str => exact .str _ _
  | nil => exact .nil _
  | nilp => exact .nilp _
  | lst0 _ ex a cap hex hcap hn hsp => exact .lst0 _ ex a cap hex hcap hn hsp
  | lst _ ex es b off cap sz c vals hne hb hsz hv hr hc1 hex hcap hmax => exact .lst _ ex es b off cap sz c vals hne hb hsz hv hr hc1 hex hcap hmax
  | loc _ cs b off c vals hb hv hr hc1 => exact .loc _ cs b off c vals hb hv hr hc1
  | refL _ b n off len cap r hr hn hlen hlc hcap hmax => exact .refL _ b n off len cap r (by rw [lcut_lt hf]; exact hr) hn hlen hlc hcap hmax
  | ref0 _ b r a hr hn hc hsp => exact .ref0 _ b r a (by rw [lcut_lt hf]; exact hr) hn hc hsp
  | refS _ b n off len r a cap hr hn => exact .refS _ b n off len r a cap (by rw [lcut_lt hf]; exact hr) hn
  | ptrL _ b n i o r hr hn => exact .ptrL _ b n i o r (by rw [lcut_lt hf]; exact hr) hn
  | ptrS _ b n i o r a hr hn => exact .ptrS _ b n i o r a (by rw [lcut_lt hf]; exact hr) hn
  | map _ b r hr hn => exact .map _ b r (by rw [lcut_lt hf]; exact hr) hn
  | val _ v h => exact .val _ v h
  | agg => cases hf
  | tup => cases hf
  | fn => cases hf
theorem all_get {α : Type} {l : List α} {p : α → Bool} (h : l.all p = true) {j : Nat} {x : α} (hj : l[j]? = some x) : p x = true :=
  List.all_eq_true.1 h x (List.mem_of_getElem? hj)
theorem flat2_rel {H : Know} {ι : Lay} {k : Nat → Bool} {x : AV} {v : Value} (h : Rel H ι x v) (hf : x.flat2 k = true) : Rel H (lcut ι k) x v := by
  cases x with
  | agg cs =>
    obtain ⟨us, rfl, hl, hr⟩ := h.agg_inv
    exact .agg _ cs us hl fun j x v h1 h2 => flat_rel (hr j x v h1 h2) (all_get hf h1)
  | _ => exact flat_rel h hf
theorem avoid_rel {H : Know} {ι : Lay} {k : Nat → Bool} {x : AV} {v : Value} (h : Rel H ι x v) (hf : x.avoid k = true) : Rel H (lcut ι k) x v := by
  cases h with
  | agg _ cs vs hl hr => exact .agg _ cs vs hl fun j x v h1 h2 => flat_rel (hr j x v h1 h2) (all_get hf h1)
  | tup _ cs vs hl hr => exact .tup _ cs vs hl fun j x v h1 h2 => flat2_rel (hr j x v h1 h2) (all_get hf h1)
  | fn _ f xs cs us vs hx hl h1 h2 =>
    simp only [AV.avoid, Bool.and_eq_true] at hf
    exact .fn _ f xs cs us vs hx hl (fun j x v g1 g2 => flat_rel (h1 j x v g1 g2) (all_get hf.1 g1)) (fun j x v g1 g2 => flat_rel (h2 j x v g1 g2) (all_get hf.2 g1))
  | bool => exact .bool _ _
  | int => exact .int _ _ _
  | str => exact .str _ _
  | nil => exact .nil _
  | nilp => exact .nilp _
  | lst0 _ ex a cap hex hcap hn hsp => exact .lst0 _ ex a cap hex hcap hn hsp
  | lst _ ex es b off cap sz c vals hne hb hsz hv hr hc1 hex hcap hmax => exact .lst _ ex es b off cap sz c vals hne hb hsz hv hr hc1 hex hcap hmax
  | loc _ cs b off c vals hb hv hr hc1 => exact .loc _ cs b off c vals hb hv hr hc1
  | refL _ b n off len cap r hr hn hlen hlc hcap hmax => exact flat_rel (.refL _ b n off len cap r hr hn hlen hlc hcap hmax) hf
  | ref0 _ b r a hr hn hc hsp => exact flat_rel (.ref0 _ b r a hr hn hc hsp) hf
  | refS _ b n off len r a cap hr hn => exact flat_rel (.refS _ b n off len r a cap hr hn) hf
  | ptrL _ b n i o r hr hn => exact flat_rel (.ptrL _ b n i o r hr hn) hf
  | ptrS _ b n i o r a hr hn => exact flat_rel (.ptrS _ b n i o r a hr hn) hf
  | map _ b r hr hn => exact flat_rel (.map _ b r hr hn) hf
  | val _ v h => exact .val _ v h
theorem objOk_cut {H : Know} {ι : Lay} {w : World} {r : Ent} {o : AObj} {k : Nat → Bool} (h : ObjOk H ι w r o) (ha : o.avoid k = true) : ObjOk H (lcut ι k) w r o := by
  cases o with
  | free => trivial
  | map kvs => exact h
  | iter0 => exact h
  | row p sz es =>
    obtain ⟨h1, h2, h3, h4, h5, h6⟩ := h
    refine ⟨h1, h2, h3, h4, h5, fun hs => ?_⟩
    obtain ⟨c, T, c1, c2, c3, c4⟩ := h6 hs
    refine ⟨c, T, c1, c2, c3, ?_⟩
    cases p with
    | true => exact c4
    | false =>
      intro i cs j x e1 e2
      obtain ⟨v, v1, v2, v3⟩ := c4 i cs j x e1 e2
      exact ⟨v, v1, avoid_rel v2 (all_get (all_get ha e1) e2), v3⟩
abbrev below (k : Nat) : Nat → Bool := fun b => Nat.blt b k
theorem Ghost.empty {n : Nat} {e : AEnv} {h : AHeap} (t : Nat) (ht : e t = some .nil) : Ghost ⟨n, e, h⟩ ⟨n, eput e t (.lst false []), h⟩ := fun H ι a w hs =>
  ⟨H, ι, ⟨hs.n, hs.d, fun u y hy => by
    by_cases hu : u = t
    · subst hu
      simp only [eput_same, Option.some.injEq] at hy
      subst hy
      obtain ⟨v, h1, h2⟩ := hs.env u _ ht
      exact ⟨v, h1, by rw [h2.nil_inv]; exact .lst0 _ _ _ _ (fun h => by cases h) (Nat.zero_le _) (fun _ => rfl) trivial⟩
    · simp only [eput_ne _ _ hu] at hy
      exact hs.env u y hy, hs.heap⟩, Step.refl _ _ _ _⟩
def EDrop (k : Nat) (e' e : AEnv) : Prop := ∀ t x, e' t = some x → e t = some x ∧ x.avoid (below k) = true
def HDrop (k : Nat) (h' h : AHeap) : Prop := ∀ b o, h' b = some o → (h b = some o ∧ (o.alive = true → Nat.blt b k = true ∧ o.avoid (below k) = true)) ∨ (o = .free ∧ Nat.blt b k = false)
theorem EDrop.new (k : Nat) (e : AEnv) : EDrop k eNew e := fun _ _ h => by cases h
theorem EDrop.put {k : Nat} {e' e : AEnv} {t : Nat} {v : AV} (h : EDrop k e' e) (hv : e t = some v) (ha : v.avoid (below k) = true) : EDrop k (eput e' t v) e := fun u x hx => by
  by_cases hu : u = t
  · subst hu; rw [eput_same] at hx; cases hx; exact ⟨hv, ha⟩
  · rw [eput_ne _ _ hu] at hx; exact h u x hx
theorem HDrop.none (k : Nat) (h : AHeap) : HDrop k hNone h := fun _ _ h => by cases h
theorem HDrop.put {k : Nat} {h' h : AHeap} {b : Nat} {o : AObj} (hh : HDrop k h' h) (ho : h b = some o) (hb : Nat.blt b k = true) (ha : o.avoid (below k) = true) : HDrop k (hput h' b o) h := fun c x hx => by
  by_cases hc : c = b
  · subst hc; rw [hput_same] at hx; cases hx; exact .inl ⟨ho, fun _ => ⟨hb, ha⟩⟩
  · rw [hput_ne _ _ hc] at hx; exact hh c x hx
theorem HDrop.tail (k : Nat) (h : AHeap) : HDrop k (hFrom k) h := fun b o hx => by
  have hk : Nat.blt b k = false := by
    cases e : Nat.blt b k with
    | false => rfl
    | true => simp only [hFrom, e, cond_true] at hx; cases hx
  have ho : o = .free := by simp only [hFrom, hk, cond_false, Option.some.injEq] at hx; exact hx.symm
  exact .inr ⟨ho, hk⟩
structure Drop (k : Nat) (s'' s' : AState) : Prop where
  n : s''.n = s'.n
  e : EDrop k s''.env s'.env
  h : HDrop k s''.h s'.h
theorem Drop.mk' {k n : Nat} {e' e : AEnv} {h' h : AHeap} (h1 : EDrop k e' e) (h2 : HDrop k h' h) : Drop k ⟨n, e', h'⟩ ⟨n, e, h⟩ := ⟨rfl, h1, h2⟩
theorem Sim.cut {H : Know} {ι : Lay} {s s' : AState} {a : Act} {w : World} {k : Nat} (hs : Sim H ι s a w) (hd : Drop k s' s) : Sim H (lcut ι (below k)) s' a w := by
  have hal : ∀ b o, s'.h b = some o → o.alive = true → s.h b = some o ∧ Nat.blt b k = true ∧ o.avoid (below k) = true := fun b o h1 h2 => by
    rcases hd.h b o h1 with ⟨g1, g2⟩ | ⟨g1, _⟩
    · exact ⟨g1, g2 h2⟩
    · subst g1; cases h2
  refine ⟨hs.n.trans hd.n.symm, hs.d, fun t x hx => ?_, ⟨hs.heap.know, fun b hb => ?_, fun b o h1 h2 => ?_, fun b b' o o' r r' h1 h2 h3 h4 h5 h6 => ?_, hs.heap.glob⟩⟩
  · obtain ⟨g1, g2⟩ := hd.e t x hx
    obtain ⟨v, v1, v2⟩ := hs.env t x g1
    exact ⟨v, v1, avoid_rel v2 g2⟩
  · rcases hd.h b _ hb with ⟨g1, _⟩ | ⟨_, g2⟩
    · have := hs.heap.free b g1
      unfold lcut; rw [this]; cases below k b <;> rfl
    · unfold lcut; rw [show below k b = false from g2]; rfl
  · obtain ⟨g1, g2, g3⟩ := hal b o h1 h2
    obtain ⟨r, r1, r2, r3⟩ := hs.heap.obj b o g1 h2
    exact ⟨r, by rw [lcut_lt (k := below k) g2]; exact r1, objOk_cut r2 g3, r3⟩
  · exact hs.heap.inj b b' o o' r r' (hal b o h1 h2).1 h2 (hal b' o' h3 h4).1 h4 (lcut_some h5) (lcut_some h6)
theorem Step.cut {H : Know} {ι : Lay} {h h1 h' : AHeap} {w : World} {H' : Know} {ι' : Lay} {w' : World} {k : Nat} (hr : HeapRel H ι h w) (hf : ∀ b, Nat.blt b k = false → h b = some .free)
    (st : Step H ι h w H' ι' h1 w') (hd : HDrop k h' h1) : Step H ι h w H' (lcut ι' (below k)) h' w' where
  size := st.size
  os := st.os
  out := st.out
  keep := st.keep
  kle := st.kle
  knew := st.knew
  lle := fun b r e => by
    cases hb : Nat.blt b k with
    | false => rw [hr.free b (hf b hb)] at e; cases e
    | true => rw [lcut_lt (k := below k) hb]; exact st.lle b r e
  lframe := fun b e => by
    cases hb : Nat.blt b k with
    | false => rw [hf b hb] at e; cases e
    | true => rw [lcut_lt (k := below k) hb]; exact st.lframe b e
  newrb := fun b r' e => st.newrb b r' (lcut_some e)
  dom := fun b e => by
    have e1 := st.dom b e
    cases e2 : h' b with
    | none => rfl
    | some o =>
      rcases hd b o e2 with ⟨g, _⟩ | ⟨_, g⟩
      · rw [g] at e1; cases e1
      · rw [hf b g] at e; cases e
section
variable {P : Program} {s : AState} {Q : Exit → AState → Prop}
theorem AGo.cut {c : Code} {K : AState → Prop} (k : Nat) (hf : ∀ b, Nat.blt b k = false → s.h b = some .free) (h : AGo P c s (Then (fun s1 => ∃ s2, Drop k s2 s1 ∧ K s2) Q)) : AGo P c s (Then K Q) := fun H ι a w hs =>
  wp_mono (h H ι a w hs) fun e a' w' hp => by
    obtain ⟨s', H', ι', q, r, t⟩ := hp
    cases e with
    | normal =>
      obtain ⟨s2, d, k2⟩ := q
      exact ⟨s2, H', _, k2, r.cut d, t.cut hs.heap hf d.h⟩
    | _ => exact ⟨s', H', ι', q, r, t⟩
theorem AGo.join {γ : Type} {c : Code} (inv : γ → AState) (F : γ → Prop) (h : AGo P c s (Then (fun s' => ∃ g, Sub (inv g) s' ∧ F g) Q)) (k : ∀ g, F g → Q .normal (inv g)) : AGo P c s Q := fun H ι a w hs =>
  wp_mono (h H ι a w hs) fun e a' w' hp => by
    obtain ⟨s', H', ι', q, r, t⟩ := hp
    cases e with
    | normal =>
      obtain ⟨g, d, hF⟩ := q
      obtain ⟨H2, ι2, r2, t2⟩ := Ghost.of_sub d H' ι' a' w' r
      exact ⟨_, H2, ι2, k g hF, r2, t.trans hs.heap r.heap t2⟩
    | _ => exact ⟨s', H', ι', q, r, t⟩
theorem hFrom_free {k b : Nat} (h : Nat.blt b k = false) : hFrom k b = some .free := by simp only [hFrom, h, cond_false]
theorem hput_free {h : AHeap} {k c : Nat} {o : AObj} (hf : ∀ b, Nat.blt b k = false → h b = some .free) (hc : Nat.blt c k = true) : ∀ b, Nat.blt b k = false → hput h c o b = some .free := fun b hb => by
  have hne : b ≠ c := fun e => by subst e; rw [hc] at hb; cases hb
  rw [hput_ne _ _ hne]; exact hf b hb
theorem AGo.loopD {γ : Type} {c : Code} (k : Nat) (inv : γ → AState) (F : γ → Prop) (μ : γ → Nat) (g0 : γ) (h0 : Sub (inv g0) s) (hF : F g0) (hf : ∀ g b, Nat.blt b k = false → (inv g).h b = some .free)
    (round : ∀ g, F g → AGo P c (inv g) (Then (fun s' => ∃ g', Drop k (inv g') s' ∧ F g' ∧ μ g' < μ g) Q)) : AGo P (.loop c) s Q :=
  AGo.loopI inv F μ g0 h0 hF fun g hg => AGo.cut k (hf g) ((round g hg).mono fun e s'' hq => by
    cases e with
    | normal => obtain ⟨g', h1, h2, h3⟩ := hq; exact ⟨inv g', h1, g', Sub.refl _, h2, h3⟩
    | _ => exact hq)
end
def mem (L : List Nat) : Nat → Bool := fun b => L.any (fun c => Nat.beq b c)
theorem mem_iff {L : List Nat} {b : Nat} : mem L b = true ↔ b ∈ L := by
  unfold mem
  rw [List.any_eq_true]
  constructor
  · rintro ⟨c, h1, h2⟩
    rw [Nat.eq_of_beq_eq_true h2]; exact h1
  · exact fun h => ⟨b, h, Nat.beq_refl b⟩
def hres (h : AHeap) (L : List Nat) : AHeap := fun b => bif mem L b then h b else some .free
theorem hres_nil (h : AHeap) : hres h [] = hNew := rfl
theorem hres_cons {h h' : AHeap} {L : List Nat} {b : Nat} {o : AObj} (ho : h b = some o) (hr : hres h L = h') : hres h (b :: L) = hput h' b o := by
  subst hr
  funext x
  by_cases hx : x = b
  · subst hx
    rw [hput_same]
    have : mem (x :: L) x = true := mem_iff.2 (by simp)
    simp only [hres, this, cond_true]; exact ho
  · rw [hput_ne _ _ hx]
    have : mem (b :: L) x = mem L x := by
      simp only [mem, List.any_cons, beq_false_of_ne hx, Bool.false_or]
    simp only [hres, this]
def AllL : List Nat → (Nat → Prop) → Prop
  | [], _ => True
  | b :: L, p => p b ∧ AllL L p
theorem AllL.get {p : Nat → Prop} : ∀ {L : List Nat}, AllL L p → ∀ b ∈ L, p b
  | b :: L, h, c, hc => by
    rcases List.mem_cons.1 hc with rfl | hc
    · exact h.1
    · exact AllL.get h.2 c hc
def lmix (ι ι' : Lay) (L : List Nat) : Lay := fun b => bif mem L b then ι' b else ι b
theorem hputs_not {W : List (Nat × AObj)} {b : Nat} : ∀ {h : AHeap}, (∀ p ∈ W, p.1 ≠ b) → hputs h W b = h b := by
  induction W with
  | nil => exact fun _ => rfl
  | cons p W ih =>
    intro h hp
    show hputs (hput h p.1 p.2) W b = h b
    rw [ih (fun q hq => hp q (List.mem_cons_of_mem _ hq)), hput_ne _ _ (fun e => hp p List.mem_cons_self e.symm)]
theorem hputs_agree {W : List (Nat × AObj)} {b : Nat} : ∀ {h h' : AHeap}, h b = h' b → hputs h W b = hputs h' W b := by
  induction W with
  | nil => exact fun h => h
  | cons p W ih =>
    intro h h' hh
    refine ih ?_
    by_cases hb : b = p.1
    · subst hb; rw [hput_same, hput_same]
    · rw [hput_ne _ _ hb, hput_ne _ _ hb, hh]
theorem call_mix {H : Know} {ι : Lay} {h : AHeap} {w : World} {L : List Nat} {W : List (Nat × AObj)} {H' : Know} {ι' : Lay} {h' : AHeap} {w' : World} (hr : HeapRel H ι h w)
    (hL : ∀ b ∈ L, ∃ o, h b = some o ∧ o.avoid (mem L) = true) (hW : ∀ p ∈ W, p.1 ∈ L)
    (hk : ∀ b ∈ L, ∃ o, h' b = some o ∧ hputs h W b = some o ∧ o.avoid (mem L) = true)
    (hr' : HeapRel H' ι' h' w') (hst : Step H (lcut ι (mem L)) (hres h L) w H' ι' h' w') :
    HeapRel H' (lmix ι ι' L) (hputs h W) w' ∧ Step H ι h w H' (lmix ι ι' L) (hputs h W) w' := by
  have mT : ∀ b, b ∈ L → lmix ι ι' L b = ι' b := fun b hb => by simp only [lmix, mem_iff.2 hb, cond_true]
  have mF : ∀ b, b ∉ L → lmix ι ι' L b = ι b := fun b hb => by
    have : mem L b = false := by cases e : mem L b with | false => rfl | true => exact absurd (mem_iff.1 e) hb
    simp only [lmix, this, cond_false]
  have cT : ∀ b, b ∈ L → lcut ι (mem L) b = ι b := fun b hb => lcut_lt (mem_iff.2 hb)
  have rT : ∀ b, b ∈ L → hres h L b = h b := fun b hb => by simp only [hres, mem_iff.2 hb, cond_true]
  have rF : ∀ b, b ∉ L → hres h L b = some .free := fun b hb => by
    have : mem L b = false := by cases e : mem L b with | false => rfl | true => exact absurd (mem_iff.1 e) hb
    simp only [hres, this, cond_false]
  have wF : ∀ b, b ∉ L → hputs h W b = h b := fun b hb => hputs_not fun p hp e => hb (e ▸ hW p hp)
  have own : ∀ rb, Owned (hres h L) (lcut ι (mem L)) rb → Owned h ι rb := by
    rintro rb ⟨b, o, r, h1, h2, h3, h4, h5⟩
    by_cases hb : b ∈ L
    · exact ⟨b, o, r, by rw [← rT b hb]; exact h1, h2, lcut_some h3, h4, h5⟩
    · rw [rF b hb] at h1; cases h1; cases h2
  -- rows that the call didn't see are none of its
  have apart : ∀ b o r, b ∉ L → h b = some o → o.alive = true → ι b = some r → r.solid → ¬ Owned (hres h L) (lcut ι (mem L)) r.rb := by
    rintro b o r hb h1 h2 h3 h4 ⟨b', o', r', g1, g2, g3, g4, g5⟩
    by_cases hb' : b' ∈ L
    · exact hr.inj b b' o o' r r' h1 h2 (by rw [← rT b' hb']; exact g1) g2 h3 (lcut_some g3) h4 g4 (fun e => hb (e ▸ hb')) g5.symm
    · rw [rF b' hb'] at g1; cases g1; cases g2
  have lle : LLe ι (lmix ι ι' L) := fun b r e => by
    by_cases hb : b ∈ L
    · rw [mT b hb]; exact hst.lle b r (by rw [cT b hb]; exact e)
    · rw [mF b hb]; exact ⟨r, e, .inl rfl⟩
  have lle' : LLe (lcut ι' (mem L)) (lmix ι ι' L) := fun b r e => by
    by_cases hb : b ∈ L
    · rw [mT b hb]; exact ⟨r, lcut_some e, .inl rfl⟩
    · have : mem L b = false := by cases e : mem L b with | false => rfl | true => exact absurd (mem_iff.1 e) hb
      simp only [lcut, this, cond_false] at e; cases e
  have blk : ∀ b o r, b ∉ L → h b = some o → o.alive = true → ι b = some r → r.solid → w'.heap[r.rb]? = w.heap[r.rb]? := fun b o r hb h1 h2 h3 h4 =>
    hst.keep r.rb (hr.lt ⟨b, o, r, h1, h2, h3, h4, rfl⟩) (apart b o r hb h1 h2 h3 h4)
  have noK : ∀ b o r, b ∉ L → h b = some o → o.alive = true → ι b = some r → r.solid → H r.rb = none → H' r.rb = none := fun b o r hb h1 h2 h3 h4 h5 => by
    cases e : H' r.rb with
    | none => rfl
    | some c =>
      rcases hst.knew r.rb (by rw [e]; simp) with g | g | g
      · exact absurd h5 g
      · have := hr.lt ⟨b, o, r, h1, h2, h3, h4, rfl⟩; omega
      · exact absurd g (apart b o r hb h1 h2 h3 h4)
  -- a row of the call's, afterwards: not one of those that it didn't see
  have apart' : ∀ b b' o r r', b ∉ L → b' ∈ L → h b = some o → o.alive = true → ι b = some r → r.solid → ι' b' = some r' → r'.solid → r.rb ≠ r'.rb := fun b b' o r r' hb hb' h1 h2 h3 h4 g1 g2 e => by
    have alive' : ∀ r0, ι b' = some r0 → r0.solid → r0.rb = r'.rb → False := fun r0 e0 es e1 => by
      obtain ⟨o0, k1, _⟩ := hL b' hb'
      have ka : o0.alive = true := by
        cases o0 with
        | free => rw [hr.free b' k1] at e0; cases e0
        | _ => rfl
      exact hr.inj b b' o o0 r r0 h1 h2 k1 ka h3 e0 h4 es (fun e => hb (e ▸ hb')) (e.trans e1.symm)
    rcases hst.newrb b' r' g1 g2 with k | k | ⟨r0, k1, k2, k3⟩
    · exact alive' r' (lcut_some k) g2 rfl
    · have := hr.lt ⟨b, o, r, h1, h2, h3, h4, rfl⟩; omega
    · exact alive' r0 (lcut_some k1) k2 k3
  refine ⟨⟨hr'.know, fun b hb => ?_, fun b o h1 h2 => ?_, fun b b' o o' r r' h1 h2 h3 h4 h5 h6 s1 s2 hne => ?_, hr'.glob⟩, ⟨hst.size, hst.os, hst.out, fun rb hlt hno => hst.keep rb hlt (fun h => hno (own rb h)), hst.kle, fun b hb => ?_, lle, fun b e => ?_, fun b r' e es => ?_, fun b e => ?_⟩⟩
  · by_cases hbL : b ∈ L
    · obtain ⟨o, k1, k2, _⟩ := hk b hbL
      rw [k2] at hb; cases hb
      rw [mT b hbL]; exact hr'.free b k1
    · rw [wF b hbL] at hb; rw [mF b hbL]; exact hr.free b hb
  · by_cases hbL : b ∈ L
    · obtain ⟨o', k1, k2, k3⟩ := hk b hbL
      rw [k2] at h1; cases h1
      obtain ⟨r, r1, r2, r3⟩ := hr'.obj b o k1 h2
      exact ⟨r, by rw [mT b hbL]; exact r1, (objOk_cut r2 k3).mono (KLe.refl _) lle' (fun _ => rfl), r3⟩
    · rw [wF b hbL] at h1
      obtain ⟨r, r1, r2, r3⟩ := hr.obj b o h1 h2
      exact ⟨r, by rw [mF b hbL]; exact r1, r2.mono hst.kle lle (fun hs => blk b o r hbL h1 h2 r1 hs), fun hs => noK b o r hbL h1 h2 r1 hs (r3 hs)⟩
  · by_cases hb : b ∈ L <;> by_cases hb' : b' ∈ L
    · obtain ⟨q, k1, k2, _⟩ := hk b hb
      obtain ⟨q', k1', k2', _⟩ := hk b' hb'
      rw [k2] at h1; cases h1
      rw [k2'] at h3; cases h3
      rw [mT b hb] at h5; rw [mT b' hb'] at h6
      exact hr'.inj b b' _ _ r r' k1 h2 k1' h4 h5 h6 s1 s2 hne
    · rw [wF b' hb'] at h3; rw [mF b' hb'] at h6; rw [mT b hb] at h5
      exact fun e => apart' b' b o' r' r hb' hb h3 h4 h6 s2 h5 s1 e.symm
    · rw [wF b hb] at h1; rw [mF b hb] at h5; rw [mT b' hb'] at h6
      exact apart' b b' o r r' hb hb' h1 h2 h5 s1 h6 s2
    · rw [wF b hb] at h1; rw [mF b hb] at h5; rw [wF b' hb'] at h3; rw [mF b' hb'] at h6
      exact hr.inj b b' o o' r r' h1 h2 h3 h4 h5 h6 s1 s2 hne
  · rcases hst.knew b hb with g | g | g
    · exact .inl g
    · exact .inr (.inl g)
    · exact .inr (.inr (own b g))
  · by_cases hb : b ∈ L
    · obtain ⟨o, k1, _⟩ := hL b hb; rw [k1] at e; cases e
    · exact mF b hb
  · by_cases hb : b ∈ L
    · rw [mT b hb] at e
      rcases hst.newrb b r' e es with k | k | ⟨r0, k1, k2, k3⟩
      · exact .inl (lcut_some k)
      · exact .inr (.inl k)
      · exact .inr (.inr ⟨r0, lcut_some k1, k2, k3⟩)
    · rw [mF b hb] at e; exact .inl e
  · by_cases hb : b ∈ L
    · obtain ⟨o, k1, _⟩ := hL b hb; rw [k1] at e; cases e
    · rw [wF b hb]; exact e
section
variable {P : Program} {o : Oper} {e : AEnv} {h : AHeap}
theorem o_call {f : FuncId} {fn : Func} {args : Array Operand} {tys : Array TypeId} {xs : List AV} {r : AV} {hc hw : AHeap} (L : List Nat) (W : List (Nat × AObj)) (ho : o.op = .call { callee := .value (.func f), args := args, argTypes := tys }) (hf : P.funcs[f]? = some fn) (hn : (fn.name == "runtime.NumGoroutine") = false) (hb : fn.body.isSome = true)
    (hx : lookAll e args.toList = some xs) (hxa : xs.all (AV.avoid (mem L)) = true) (hL : AllL L fun b => ∃ q, h b = some q ∧ q.avoid (mem L) = true) (hW : W.all (fun p => mem L p.1) = true) (hres' : hres h L = hc)
    (hk : AllL L fun b => ∃ q, hw b = some q ∧ hputs h W b = some q ∧ q.avoid (mem L) = true) (hra : r.avoid (mem L) = true)
    (hcall : ACall P f xs hc (fun r' h' => r' = r ∧ HSub hw h')) : OLoc P o e h L W (some r) := by
  intro H ι a w s Q hs g1 g2
  have hx' : lookAll s.env args.toList = some xs := by
    rw [lookAll_agree (e := e) (fun x hx => g1 x z41q)]; exact hx
  have hraa := relAll_map hs hx'
  have hra' : RelAll H (lcut ι (mem L)) xs (args.map a.eval) := ⟨hraa.1, fun j x v h1 h2 => avoid_rel (hraa.2 j x v h1 h2) (all_get hxa h1)⟩
  have hLs : ∀ b ∈ L, ∃ q, s.h b = some q ∧ q.avoid (mem L) = true := fun b hb => by rw [g2 b hb]; exact hL.get b hb
  have hres2 : hres s.h L = hc := by
    rw [← hres']
    funext b
    unfold hres
    cases e : mem L b with
    | true => simp only [cond_true]; exact g2 b (mem_iff.1 e)
    | false => rfl
  have hrc : HeapRel H (lcut ι (mem L)) (hres s.h L) w := by
    have key : ∀ b o, hres s.h L b = some o → o.alive = true → b ∈ L ∧ s.h b = some o := fun b o h1 h2 => by
      unfold hres at h1
      cases e : mem L b with
      | true => rw [e] at h1; exact ⟨mem_iff.1 e, h1⟩
      | false => rw [e] at h1; cases h1; cases h2
    refine ⟨hs.heap.know, fun b hb => ?_, fun b o h1 h2 => ?_, fun b b' o o' r r' h1 h2 h3 h4 h5 h6 => ?_, hs.heap.glob⟩
    · unfold hres at hb
      unfold lcut
      cases e : mem L b with
      | true => rw [e] at hb; exact hs.heap.free b hb
      | false => rfl
    · obtain ⟨k1, k2⟩ := key b o h1 h2
      obtain ⟨r, r1, r2, r3⟩ := hs.heap.obj b o k2 h2
      obtain ⟨q, q1, q2⟩ := hLs b k1
      rw [k2] at q1; cases q1
      exact ⟨r, by rw [lcut_lt (mem_iff.2 k1)]; exact r1, objOk_cut r2 q2, r3⟩
    · exact hs.heap.inj b b' o o' r r' (key b o h1 h2).2 h2 (key b' o' h3 h4).2 h4 (lcut_some h5) (lcut_some h6)
  have hcalls := hcall H (lcut ι (mem L)) w _ hra' (hres2 ▸ hrc)
  have hexec : (execOp a.eval o).run P w = .ok (.enter f (args.map a.eval)) w := by
    simp [execOp, ho, resolve, Act.eval, Deferred.ofValue, invoke, run_callFunc hf hn hb]
  unfold Oper.wp
  rw [hexec]
  refine hcalls.mono fun en w' hh => ?_
  obtain ⟨v, r', h', H', ι', rfl, ⟨rfl, hsub⟩, k1, k2, k3⟩ := hh
  have hk' : ∀ b ∈ L, ∃ q, h' b = some q ∧ hputs s.h W b = some q ∧ q.avoid (mem L) = true := fun b hb => by
    obtain ⟨q, q1, q2, q3⟩ := hk.get b hb
    exact ⟨q, hsub b q q1, by rw [hputs_agree (g2 b hb)]; exact q2, q3⟩
  obtain ⟨u1, u2⟩ := call_mix hs.heap hLs (fun p hp => mem_iff.1 (List.all_eq_true.1 hW p hp)) hk' k2 (hres2.symm ▸ k3)
  refine ⟨v, H', _, rfl, fun x ex => ?_, u1, u2⟩
  cases ex
  refine (avoid_rel k1 hra).mono (KLe.refl _) fun b r e => ?_
  by_cases hb : b ∈ L
  · exact ⟨r, by simp only [lmix, mem_iff.2 hb, cond_true]; exact lcut_some e, .inl rfl⟩
  · have : mem L b = false := by cases e : mem L b with | false => rfl | true => exact absurd (mem_iff.1 e) hb
    simp only [lcut, this, cond_false] at e; cases e
end
abbrev NMap := List (Int × AV)
def kvs (K : IntKind) (m : NMap) : List (AV × AV) := m.map fun p => (.int K p.1, p.2)
def klook (z : Int) : NMap → Option (Nat × AV)
  | [] => none
  | (k, v) :: r => bif z == k then some (0, v) else (klook z r).map fun p => (p.1 + 1, p.2)
def kget (z : Int) (m : NMap) : Option AV := (klook z m).map (·.2)
def kset (z : Int) (v : AV) : NMap → NMap
  | [] => [(z, v)]
  | (k, u) :: r => bif z == k then (k, v) :: r else (k, u) :: kset z v r
def kdel (z : Int) : NMap → NMap
  | [] => []
  | (k, u) :: r => bif z == k then r else (k, u) :: kdel z r
inductive EntRel (H : Know) (K : IntKind) : NMap → List MapEntry → Prop
  | nil : EntRel H K [] []
  | cons (z : Int) (v : AV) (m : NMap) (e : MapEntry) (es : List MapEntry) (hk : e.key = .int K z) (hv : Rel H noLay v e.val) (h : EntRel H K m es) : EntRel H K ((z, v) :: m) (e :: es)
theorem entRel_of {H : Know} {K : IntKind} : ∀ {m : NMap} {es : List MapEntry}, (kvs K m).length = es.length → (∀ (j : Nat) (k v : AV), (kvs K m)[j]? = some (k, v) → ∃ e, es[j]? = some e ∧ Rel H noLay k e.key ∧ Rel H noLay v e.val) → EntRel H K m es
  | [], es, h1, _ => by
    have : es = [] := List.length_eq_zero_iff.1 (by simpa [kvs] using h1.symm)
    subst this; exact .nil
  | (z, v) :: m, [], h1, _ => by simp [kvs] at h1
  | (z, v) :: m, e :: es, h1, h2 => by
    obtain ⟨e', g1, g2, g3⟩ := h2 0 (.int K z) v rfl
    simp at g1; subst g1
    exact .cons z v m e es g2.int_inv g3 (entRel_of (by simpa [kvs] using h1) fun j k u hj => by
      obtain ⟨e', k1, k2⟩ := h2 (j + 1) k u (by simpa [kvs] using hj)
      exact ⟨e', by simpa using k1, k2⟩)
theorem EntRel.out {H : Know} {K : IntKind} {m : NMap} {es : List MapEntry} (h : EntRel H K m es) : (kvs K m).length = es.length ∧ ∀ (j : Nat) (k v : AV), (kvs K m)[j]? = some (k, v) → ∃ e, es[j]? = some e ∧ Rel H noLay k e.key ∧ Rel H noLay v e.val := by
  induction h with
  | nil => exact ⟨rfl, fun j k v h => by simp [kvs] at h⟩
  | cons z v m e es hk hv h ih =>
    refine ⟨by simpa [kvs] using ih.1, fun j k u hj => ?_⟩
    cases j with
    | zero =>
      simp [kvs] at hj
      obtain ⟨rfl, rfl⟩ := hj
      exact ⟨e, rfl, by rw [hk]; exact .int _ _ _, hv⟩
    | succ j =>
      obtain ⟨e', k1, k2⟩ := ih.2 j k u (by simpa [kvs] using hj)
      exact ⟨e', by simpa using k1, k2⟩
theorem mapCells_iff {H : Know} {K : IntKind} {m : NMap} {es : Array MapEntry} : mapCells H (kvs K m) es ↔ EntRel H K m es.toList := by
  constructor
  · rintro ⟨h1, h2⟩
    exact entRel_of (by simpa using h1) fun j k v hj => by
      obtain ⟨e, g1, g2⟩ := h2 j k v hj
      exact ⟨e, by simpa using g1, g2⟩
  · intro h
    obtain ⟨h1, h2⟩ := h.out
    exact ⟨by simpa using h1, fun j k v hj => by
      obtain ⟨e, g1, g2⟩ := h2 j k v hj
      exact ⟨e, by simpa using g1, g2⟩⟩
theorem EntRel.find {H : Know} {K : IntKind} {m : NMap} {es : List MapEntry} (h : EntRel H K m es) (z : Int) : ∀ i, ∃ r, Instr.findNow (.int K) (.int K z) es i = some r ∧
    ((klook z m = none ∧ r = none) ∨ ∃ j v e, klook z m = some (j, v) ∧ r = some (i + j, e.val) ∧ es[j]? = some e ∧ e.key = .int K z ∧ Rel H noLay v e.val) := by
  induction h with
  | nil => exact fun i => ⟨none, rfl, .inl ⟨rfl, rfl⟩⟩
  | cons k v m e es hk hv h ih =>
    intro i
    obtain ⟨r, r1, r2⟩ := ih (i + 1)
    by_cases hz : z = k
    · subst hz
      refine ⟨some (i, e.val), by simp [Instr.findNow, Instr.sameNow, hk], .inr ⟨0, v, e, by simp [klook], rfl, rfl, hk, hv⟩⟩
    · have hb : (z == k) = false := by simpa using hz
      refine ⟨r, by simp [Instr.findNow, Instr.sameNow, hk, hb, r1], ?_⟩
      rcases r2 with ⟨g1, g2⟩ | ⟨j, u, e', g1, g2, g3, g4⟩
      · exact .inl ⟨by simp [klook, hb, g1], g2⟩
      · exact .inr ⟨j + 1, u, e', by simp [klook, hb, g1], by rw [g2]; congr 2; omega, by simpa using g3, g4⟩
theorem EntRel.set_new {H : Know} {K : IntKind} {m : NMap} {es : List MapEntry} (h : EntRel H K m es) {z : Int} {v : AV} {val : Value} (hv : Rel H noLay v val) (clk : Nat) (hn : klook z m = none) : EntRel H K (kset z v m) (es ++ [{ key := .int K z, val := val, born := clk }]) := by
  induction h with
  | nil => exact .cons z v [] _ [] rfl hv .nil
  | cons k u m e es hk hu h ih =>
    unfold klook at hn
    cases hz : z == k with
    | true => rw [hz] at hn; cases hn
    | false =>
      rw [hz] at hn
      have : klook z m = none := by simpa using hn
      unfold kset
      rw [hz]
      exact .cons k u _ e _ hk hu (ih this)
theorem EntRel.set_old {H : Know} {K : IntKind} {m : NMap} {es : List MapEntry} (h : EntRel H K m es) {z : Int} {v : AV} {val : Value} (hv : Rel H noLay v val) : ∀ {j : Nat} {v0 : AV}, klook z m = some (j, v0) → EntRel H K (kset z v m) (es.modify j fun e => { e with key := .int K z, val := val }) := by
  induction h with
  | nil => intro j v0 hn; cases hn
  | cons k u m e es hk hu h ih =>
    intro j v0 hn
    unfold klook at hn
    cases hz : z == k with
    | true =>
      rw [hz] at hn
      simp at hn
      obtain ⟨rfl, rfl⟩ := hn
      unfold kset
      rw [hz]
      have : z = k := by simpa using hz
      subst this
      exact .cons z v m _ es rfl hv h
    | false =>
      rw [hz] at hn
      simp only [cond_false, Option.map_eq_some_iff] at hn
      obtain ⟨⟨j', v'⟩, g1, g2⟩ := hn
      simp at g2
      obtain ⟨rfl, rfl⟩ := g2
      unfold kset
      rw [hz]
      exact .cons k u _ e _ hk hu (ih g1)
theorem EntRel.del_old {H : Know} {K : IntKind} {m : NMap} {es : List MapEntry} (h : EntRel H K m es) {z : Int} : ∀ {j : Nat} {v0 : AV}, klook z m = some (j, v0) → EntRel H K (kdel z m) (es.eraseIdx j) := by
  induction h with
  | nil => intro j v0 hn; cases hn
  | cons k u m e es hk hu h ih =>
    intro j v0 hn
    unfold klook at hn
    cases hz : z == k with
    | true =>
      rw [hz] at hn
      simp at hn
      obtain ⟨rfl, rfl⟩ := hn
      unfold kdel
      rw [hz]
      exact h
    | false =>
      rw [hz] at hn
      simp only [cond_false, Option.map_eq_some_iff] at hn
      obtain ⟨⟨j', v'⟩, g1, g2⟩ := hn
      simp at g2
      obtain ⟨rfl, rfl⟩ := g2
      unfold kdel
      rw [hz]
      exact .cons k u _ e _ hk hu (ih g1)
theorem kdel_none {z : Int} : ∀ {m : NMap}, klook z m = none → kdel z m = m
  | [], _ => rfl
  | (k, u) :: m, hn => by
    unfold klook at hn
    cases hz : z == k with
    | true => rw [hz] at hn; cases hn
    | false =>
      rw [hz] at hn
      unfold kdel
      rw [hz]
      simp only [cond_false]
      rw [kdel_none (m := m) (by simpa using hn)]
theorem run_checkInt {P : Program} {w : World} {kt : TypeId} {K : IntKind} (hk : P.underlying kt = some (.int K)) (em : Bool) (z : Int) : (Instr.checkKey em 10000 kt (.int K z)).run P w = .ok () w := by
  rw [Instr.checkKey]
  simp [run_underlying' hk]
theorem run_findInt {P : Program} {w : World} {kt : TypeId} {K : IntKind} (hk : P.underlying kt = some (.int K)) {z : Int} {es : List MapEntry} {r : Option (Nat × Value)} (h : Instr.findNow (.int K) (.int K z) es 0 = some r) : (Instr.findKey kt (.int K z) es).run P w = .ok r w := by
  simp [Instr.findKey, run_underlying' hk, h]
theorem run_staysInt {P : Program} {w : World} {K : IntKind} (z : Int) : (Instr.keyThatStays (.int K z) (.int K z)).run P w = .ok (.int K z) w := by
  have : Instr.sameBits 10000 (.int K z) (.int K z) = true := by rw [Instr.sameBits]; simp
  unfold Instr.keyThatStays
  rw [if_pos this]
  rfl
section
variable {P : Program} {T : Nat → Option TyI} {o : Oper} {e : AEnv} {h : AHeap}
theorem q_lookupOk (hT : TOk P T) {t kt et : TypeId} {x y : Operand} {b : Nat} {K : IntKind} {z : Int} {m : NMap} {i j : TyI} {zv : Value} {z0 : AV} (ho : o.op = .lookup t x y true) (hx : look e x = some (.map b)) (hy : look e y = some (.int K z)) (hb : h b = some (.map (kvs K m)))
    (hi : T t = some i) (hk : i.k = .map kt et) (hj : T kt = some j) (hjk : j.k = .int K) (hz : (P.info? et).bind (·.zero) = some zv) (hz0 : cellAV zv = some z0) : QLoc P o e h [b] (.tup [(kget z m).getD z0, .bool (kget z m).isSome]) := by
  intro H ι a w s hs h1 h2
  have hx' : look s.env x = some (.map b) := by rw [h1 x (by rw [ho]; simp [Op.operands]), hx]
  have hy' : look s.env y = some (.int K z) := by rw [h1 y (by rw [ho]; simp [Op.operands]), hy]
  have hb' : s.h b = some (.map (kvs K m)) := by rw [h2 b (by simp), hb]
  obtain ⟨info, d, e1, e2, e3, e4, e5, e6⟩ := tyOf_spec (hT _ _ hi)
  obtain ⟨info', d', e1', e2', e3', e4', e5', e6'⟩ := tyOf_spec (hT _ _ hj)
  have hd := tk_map (P := P) (d := d) (e3 ▸ hk)
  subst hd
  have hd' := tk_int (P := P) (d := d') (e3' ▸ hjk)
  subst hd'
  have hvy : a.eval y = .int K z := (look_rel hs hy').int_inv
  obtain ⟨r, hr, hr0, hvx⟩ := (look_rel hs hx').map_inv
  obtain ⟨r', hl, ⟨r1, r2, es, clk, r3, r4⟩, r5⟩ := hs.heap.obj b _ hb' rfl
  rw [hr] at hl; cases hl
  obtain ⟨rr, f1, f2⟩ := (mapCells_iff.1 r4).find z 0
  have hzero : (zeroValue et).run P w = .ok zv w := by
    cases ei : P.info? et with
    | none => rw [ei] at hz; cases hz
    | some inf =>
      rw [ei] at hz
      simp only [Option.bind_some] at hz
      simp [zeroValue, typeInfo, ei, hz]
  rcases f2 with ⟨g1, rfl⟩ | ⟨p, v, en, g1, rfl, g3, g4, g5⟩
  · refine ⟨.tuple #[zv, .bool false], ?_, ?_⟩
    · simp only [kget, g1, Option.map_none, Option.getD_none, Option.isSome_none]
      refine .tup _ _ _ rfl fun q x u hq hu => ?_
      match q, hq, hu with
      | 0, hq, hu => simp at hq hu; subst hq; subst hu; exact cellAV_rel hz0
      | 1, hq, hu => simp at hq hu; subst hq; subst hu; exact .bool _ _
      | q + 2, hq, hu => simp at hq
    · simp [execOp, ho, Instr.lookup, hvx, hvy, run_underlying' e2, MapKept.run_getObj_map r3, run_checkInt e2', run_findInt e2' f1, hzero]
  · refine ⟨.tuple #[en.val, .bool true], ?_, ?_⟩
    · simp only [kget, g1, Option.map_some, Option.getD_some, Option.isSome_some]
      refine .tup _ _ _ rfl fun q x u hq hu => ?_
      match q, hq, hu with
      | 0, hq, hu => simp at hq hu; subst hq; subst hu; exact g5.mono (KLe.refl _) (LLe.none _)
      | 1, hq, hu => simp at hq hu; subst hq; subst hu; exact .bool _ _
      | q + 2, hq, hu => simp at hq
    · simp [execOp, ho, Instr.lookup, hvx, hvy, run_underlying' e2, MapKept.run_getObj_map r3, run_checkInt e2', run_findInt e2' f1]
theorem o_makeMap {t : TypeId} (K : IntKind) (b : Nat) (ho : o.op = .makeMap t none) (hb : h b = some .free) : OLoc P o e h [b] [(b, .map (kvs K []))] (some (.map b)) := by
  intro H ι a w s Q hs h1 h2
  have hb' : s.h b = some .free := by rw [h2 b (by simp), hb]
  obtain ⟨u1, u2⟩ := hs.heap.upd (o' := .map (kvs K [])) (r' := ⟨w.heap.size, 0, 0, 1⟩) (w' := w.alloc (.map #[] 0)) hb' rfl (.inl rfl) (fun _ => .inl (Nat.le_refl _)) (fun rb hlt _ => heap_alloc_old w _ hlt) (by simp) rfl rfl
    ⟨rfl, by simp [Ent.solid], #[], 0, heap_alloc_new w _, mapCells_iff.2 .nil⟩
  have hrun : (execOp a.eval o).run P w = .ok (.value (.map (some w.heap.size))) (w.alloc (.map #[] 0)) := by
    simp [execOp, ho, Instr.makeMap]
  unfold Oper.wp
  rw [hrun]
  exact ⟨_, H, _, rfl, fun x ex => by cases ex; exact .map _ b _ (lput_same _ _ _) rfl, u1, u2⟩
theorem map_write {H : Know} {ι : Lay} {s : AState} {a : Act} {w : World} (hs : Sim H ι s a w) {b : Nat} {K : IntKind} {m m' : NMap} {r : Ent} {es es' : Array MapEntry} {clk clk' : Nat} (hb : s.h b = some (.map (kvs K m))) (hr : ι b = some r) (r1 : r.sz = 0) (r2 : r.solid)
    (r3 : w.heap[r.rb]? = some (.map es clk)) (hm : EntRel H K m' es'.toList) :
    HeapRel H ι (hput s.h b (.map (kvs K m'))) { w with heap := w.heap.setIfInBounds r.rb (.map es' clk') } ∧ Step H ι s.h w H ι (hput s.h b (.map (kvs K m'))) { w with heap := w.heap.setIfInBounds r.rb (.map es' clk') } := by
  have hlt : r.rb < w.heap.size := (Array.getElem?_eq_some_iff.1 r3).1
  have := hs.heap.upd (o' := .map (kvs K m')) (r' := r) (w' := { w with heap := w.heap.setIfInBounds r.rb (.map es' clk') }) hb rfl (.inr ⟨r, hr, rfl, .inl rfl⟩) (fun _ => .inr ⟨r, hr, rfl, r2, rfl⟩)
    (fun rb _ hne => by
      have : rb ≠ r.rb := hne r hr rfl r2
      simp [Array.getElem?_setIfInBounds_ne (Ne.symm this)]) (by simp) rfl rfl
    ⟨r1, r2, es', clk', by simp [hlt], mapCells_iff.2 hm⟩
  rwa [show lput ι b r = ι from by
    funext c
    by_cases hc : c = b
    · subst hc; rw [lput_same, hr]
    · rw [lput_ne _ _ hc]] at this
theorem o_mapUpdate (hT : TOk P T) {t kt et : TypeId} {x y u : Operand} {b : Nat} {K : IntKind} {z : Int} {m : NMap} {q : AV} {i j : TyI} (ho : o.op = .mapUpdate t x y u) (hd : o.dst = none) (hx : look e x = some (.map b)) (hy : look e y = some (.int K z)) (hu : look e u = some q) (hp : q.isPure = true)
    (hb : h b = some (.map (kvs K m))) (hi : T t = some i) (hk : i.k = .map kt et) (hj : T kt = some j) (hjk : j.k = .int K) : OLoc P o e h [b] [(b, .map (kvs K (kset z q m)))] none := by
  intro H ι a w s Q hs h1 h2
  have hx' : look s.env x = some (.map b) := by rw [h1 x (by rw [ho]; simp [Op.operands]), hx]
  have hy' : look s.env y = some (.int K z) := by rw [h1 y (by rw [ho]; simp [Op.operands]), hy]
  have hu' : look s.env u = some q := by rw [h1 u (by rw [ho]; simp [Op.operands]), hu]
  have hb' : s.h b = some (.map (kvs K m)) := by rw [h2 b (by simp), hb]
  obtain ⟨info, d, e1, e2, e3, e4, e5, e6⟩ := tyOf_spec (hT _ _ hi)
  obtain ⟨info', d', e1', e2', e3', e4', e5', e6'⟩ := tyOf_spec (hT _ _ hj)
  have hd1 := tk_map (P := P) (d := d) (e3 ▸ hk)
  subst hd1
  have hd' := tk_int (P := P) (d := d') (e3' ▸ hjk)
  subst hd'
  have hvy : a.eval y = .int K z := (look_rel hs hy').int_inv
  obtain ⟨r, hr, hr0, hvx⟩ := (look_rel hs hx').map_inv
  obtain ⟨r', hl, ⟨r1, r2, es, clk, r3, r4⟩, r5⟩ := hs.heap.obj b _ hb' rfl
  rw [hr] at hl; cases hl
  have hrv := pure_rel (ι' := noLay) hp (look_rel hs hu')
  have hE := mapCells_iff.1 r4
  obtain ⟨rr, f1, f2⟩ := hE.find z 0
  unfold Oper.wp
  rcases f2 with ⟨g1, rfl⟩ | ⟨p, v, en, g1, rfl, g3, g4, g5⟩
  · have hrun : (execOp a.eval o).run P w = .ok .skip { w with heap := w.heap.setIfInBounds r.rb (.map (es.push { key := .int K z, val := a.eval u, born := clk }) (clk + 1)) } := by
      simp [execOp, ho, Instr.mapUpdate, hvx, hvy, run_underlying' e2, MapKept.run_getObj_map r3, run_checkInt e2', run_findInt e2' f1, MapKept.run_setObj_map _ r3]
    rw [hrun]
    obtain ⟨u1, u2⟩ := map_write hs (es' := es.push { key := .int K z, val := a.eval u, born := clk }) (clk' := clk + 1) hb' hr r1 r2 r3 (m' := kset z q m) (by rw [Array.toList_push]; exact hE.set_new hrv clk g1)
    exact ⟨undef, H, ι, (by rw [hd]), (fun x ex => by cases ex), u1, u2⟩
  · have hrun : (execOp a.eval o).run P w = .ok .skip { w with heap := w.heap.setIfInBounds r.rb (.map (es.modify p fun e => { e with key := .int K z, val := a.eval u }) clk) } := by
      have g3' : es[p]? = some en := by simpa using g3
      simp [execOp, ho, Instr.mapUpdate, hvx, hvy, run_underlying' e2, MapKept.run_getObj_map r3, run_checkInt e2', run_findInt e2' f1, MapKept.run_setObj_map _ r3, g3', g4, run_staysInt]
    rw [hrun]
    obtain ⟨u1, u2⟩ := map_write hs (es' := es.modify p fun e => { e with key := .int K z, val := a.eval u }) (clk' := clk) hb' hr r1 r2 r3 (m' := kset z q m) (by rw [Array.toList_modify]; exact hE.set_old hrv g1)
    exact ⟨undef, H, ι, (by rw [hd]), (fun x ex => by cases ex), u1, u2⟩
theorem o_delete (hT : TOk P T) {t kt et tk : TypeId} {x y : Operand} {b : Nat} {K : IntKind} {z : Int} {m : NMap} {i j : TyI} (ho : o.op = .call { callee := .builtin .delete, args := #[x, y], argTypes := #[t, tk] }) (hd : o.dst = none) (hx : look e x = some (.map b)) (hy : look e y = some (.int K z))
    (hb : h b = some (.map (kvs K m))) (hi : T t = some i) (hk : i.k = .map kt et) (hj : T kt = some j) (hjk : j.k = .int K) : OLoc P o e h [b] [(b, .map (kvs K (kdel z m)))] none := by
  intro H ι a w s Q hs h1 h2
  have hx' : look s.env x = some (.map b) := by rw [h1 x z58q, hx]
  have hy' : look s.env y = some (.int K z) := by rw [h1 y z58q, hy]
  have hb' : s.h b = some (.map (kvs K m)) := by rw [h2 b (by simp), hb]
  obtain ⟨info, d, e1, e2, e3, e4, e5, e6⟩ := tyOf_spec (hT _ _ hi)
  obtain ⟨info', d', e1', e2', e3', e4', e5', e6'⟩ := tyOf_spec (hT _ _ hj)
  have hd1 := tk_map (P := P) (d := d) (e3 ▸ hk)
  subst hd1
  have hd' := tk_int (P := P) (d := d') (e3' ▸ hjk)
  subst hd'
  have hvy : a.eval y = .int K z := (look_rel hs hy').int_inv
  obtain ⟨r, hr, hr0, hvx⟩ := (look_rel hs hx').map_inv
  obtain ⟨r', hl, ⟨r1, r2, es, clk, r3, r4⟩, r5⟩ := hs.heap.obj b _ hb' rfl
  rw [hr] at hl; cases hl
  have hE := mapCells_iff.1 r4
  obtain ⟨rr, f1, f2⟩ := hE.find z 0
  unfold Oper.wp
  rcases f2 with ⟨g1, rfl⟩ | ⟨p, v, en, g1, rfl, g3, g4, g5⟩
  · have hrun : (execOp a.eval o).run P w = .ok (.value (.tuple #[])) { w with heap := w.heap.setIfInBounds r.rb (.map es clk) } := by
      simp [execOp, ho, resolve, invoke, builtin, Builtin.delete_, hvx, hvy, run_underlying' e2, MapKept.run_getObj_map r3, run_checkInt e2', run_findInt e2' f1, MapKept.run_setObj_map _ r3]
    rw [hrun]
    obtain ⟨u1, u2⟩ := map_write hs (es' := es) (clk' := clk) hb' hr r1 r2 r3 (m' := kdel z m) (by rw [kdel_none g1]; exact hE)
    exact ⟨_, H, ι, rfl, (fun x ex => by cases ex), u1, u2⟩
  · have hrun : (execOp a.eval o).run P w = .ok (.value (.tuple #[])) { w with heap := w.heap.setIfInBounds r.rb (.map (es.eraseIdxIfInBounds p) clk) } := by
      simp [execOp, ho, resolve, invoke, builtin, Builtin.delete_, hvx, hvy, run_underlying' e2, MapKept.run_getObj_map r3, run_checkInt e2', run_findInt e2' f1, MapKept.run_setObj_map _ r3]
    rw [hrun]
    obtain ⟨u1, u2⟩ := map_write hs (es' := es.eraseIdxIfInBounds p) (clk' := clk) hb' hr r1 r2 r3 (m' := kdel z m) (by rw [Array.toList_eraseIdxIfInBounds]; exact hE.del_old g1)
    exact ⟨_, H, ι, rfl, (fun x ex => by cases ex), u1, u2⟩
end
section
variable {P : Program} {T : Nat → Option TyI} {o : Oper} {e : AEnv} {h : AHeap}
theorem q_boolEq (hT : TOk P T) {t t' : TypeId} {x y : Operand} {a b : Bool} {i : TyI} (neg : Bool) (ho : o.op = .binOp (bif neg then .neq else .eql) t x y t') (hx : look e x = some (.bool a)) (hy : look e y = some (.bool b)) (hi : T t = some i) (hk : i.k = .bool) : QLoc P o e h [] (.bool (bif neg then a != b else a == b)) := by
  intro H ι act w s hs g1 g2
  have hx' : look s.env x = some (.bool a) := by rw [g1 x (by rw [ho]; simp [Op.operands]), hx]
  have hy' : look s.env y = some (.bool b) := by rw [g1 y (by rw [ho]; simp [Op.operands]), hy]
  have hvx : act.eval x = .bool a := (look_rel hs hx').bool_inv
  have hvy : act.eval y = .bool b := (look_rel hs hy').bool_inv
  obtain ⟨info, d, e1, e2, e3, e4, e5, e6⟩ := tyOf_spec (hT _ _ hi)
  have hd := tk_bool (P := P) (d := d) (e3 ▸ hk)
  subst hd
  have he : (Op.equalIn 10000 t (.bool a) (.bool b)).run P w = .ok (a == b) w := by
    rw [Op.equalIn]; simp [run_underlying' e2]
  refine ⟨_, .bool _ _, ?_⟩
  cases neg with
  | false =>
    simp only [cond_false] at ho
    simp only [execOp, ho, hvx, hvy, eqGuard, binOp, Op.equal, Op.maxDepth, Sem.run_bind, Result.andThen_ok, Sem.run_pure, he, cond_false, Bool.not_true, Bool.false_eq_true, if_false]
  | true =>
    simp only [cond_true] at ho
    simp only [execOp, ho, hvx, hvy, eqGuard, binOp, Op.equal, Op.maxDepth, Sem.run_bind, Result.andThen_ok, Sem.run_pure, he, cond_true, Bool.not_true, Bool.false_eq_true, if_false]
    cases a <;> cases b <;> rfl
theorem q_neg {x : Operand} {t : TypeId} {k : IntKind} {n : Int} (ho : o.op = .unOp .neg t x) (hx : look e x = some (.int k n)) : QLoc P o e h [] (.int k (k.wrap (0 - n))) := by
  intro H ι a w s hs h1 h2
  have hx' : look s.env x = some (.int k n) := by rw [h1 x (by rw [ho]; simp [Op.operands]), hx]
  have hvx : a.eval x = .int k n := (look_rel hs hx').int_inv
  exact ⟨_, .int _ _ _, by simp [execOp, ho, hvx, Op.unary, Op.intArith]⟩
end
end Go.Proofs.YtbbfelelocccmaaGreat.Sv
namespace Go.Proofs.YtbbfelelocccmaaGreat.Sv
open Go Go.ChangeShapes Go.WideShapes Go.ChangeAt Go.RowKit
def heapKnow (W : World) : Know := fun b => match W.heap[b]? with
  | some (.cells c _ _) => some c
  | _ => none
theorem heapKnow_ok (W : World) (hg : GlobOk (heapKnow W)) : KnowOk (heapKnow W) W where
  know := fun b c h => by
    unfold heapKnow at h
    split at h
    · rename_i c' T fr e; cases h; exact ⟨T, fr, e⟩
    · cases h
  glob := hg
theorem heapKnow_cell {W : World} {a : Addr} {v : Value} (h : W.cell? a = some v) : ∃ c, heapKnow W a.block = some c ∧ a.spot = none ∧ c[a.off]? = some v := by
  unfold World.cell? at h
  split at h
  · rename_i c T fr e
    split at h
    · cases h
    · rename_i hs
      refine ⟨c, by simp [heapKnow, e], ?_, h⟩
      cases e2 : a.spot with
      | none => rfl
      | some x => simp [e2] at hs
  · cases h
def Reads (W : World) (cs : List Value) (xs : List AV) : Prop := xs.length = cs.length ∧ ∀ (j : Nat) (x : AV) (v : Value), xs[j]? = some x → cs[j]? = some v → Rel (heapKnow W) noLay x v ∧ x.cell1 = true
section
variable {H : Type}
def Dec (enc : TypeId × Value → H) (P : Program) (W : World) (t : TypeId) {α : Type} (f : α → List AV) (Q : α → Prop) : Prop :=
  ∀ (fuel : Nat) (cs : List Value) (x : DataW H × List MemPlace), DataW.trod enc P W 0 (fun _ => true) true fuel t cs = some x → (x.1.weights P t).all (· ≤ reachBytes) = true → ∃ a, Reads W cs (f a) ∧ Q a
variable {enc : TypeId × Value → H} {P : Program} {W : World} {t e : TypeId}
theorem Reads.one {v : Value} {x : AV} (h : Rel (heapKnow W) noLay x v) (h1 : x.cell1 = true) : Reads W [v] [x] := ⟨rfl, fun j y u hy hu => by
  cases j with
  | zero => simp at hy hu; subst hy; subst hu; exact ⟨h, h1⟩
  | succ j => simp at hy⟩
theorem Dec.int {k : IntKind} (ht : P.underlying t = some (.int k)) : Dec enc P W t (fun n : Int => [.int k n]) (fun n => (Lit.int k n).wf = true) := fun fuel cs x h _ => by
  obtain ⟨n, rfl, rfl, hw⟩ := DataW.trod_int ht h
  exact ⟨n, .one (.int _ _ _) rfl, hw⟩
theorem Dec.bool (ht : P.underlying t = some .bool) : Dec enc P W t (fun b : Bool => [.bool b]) (fun _ => True) := fun fuel cs x h _ => by
  obtain ⟨b, rfl, rfl⟩ := DataW.trod_bool ht h
  exact ⟨b, .one (.bool _ _) rfl, trivial⟩
theorem Dec.string (ht : P.underlying t = some .string) : Dec enc P W t (fun s : ByteArray => [.str s]) (fun s => s.size ≤ maxLen ∧ s.size ≤ reachBytes) := fun fuel cs x h hw => by
  obtain ⟨s, rfl, rfl, hs⟩ := DataW.trod_string ht h
  refine ⟨s, .one (.str _ _) rfl, hs, ?_⟩
  simpa [DataW.weights] using hw
theorem exists_list {α : Type} {R : Nat → α → Prop} : ∀ n : Nat, (∀ i, i < n → ∃ a, R i a) → ∃ l : List α, l.length = n ∧ ∀ i a, l[i]? = some a → R i a
  | 0, _ => ⟨[], rfl, fun i a h => by simp at h⟩
  | n + 1, h => by
    obtain ⟨l, h1, h2⟩ := exists_list n (fun i hi => h i (by omega))
    obtain ⟨a, ha⟩ := h n (by omega)
    refine ⟨l ++ [a], by simp [h1], fun i b hb => ?_⟩
    by_cases hi : i < n
    · rw [List.getElem?_append_left (by omega)] at hb; exact h2 i b hb
    · rw [List.getElem?_append_right (by omega)] at hb
      have : i = n := by
        rcases Nat.lt_or_ge (i - l.length) 1 with h | h
        · omega
        · rw [List.getElem?_eq_none (by simpa using h)] at hb; cases hb
      subst this
      simp [h1] at hb
      subst hb; exact ha
theorem weightsAll_get : ∀ {ds : List (DataW H)} {d : DataW H} {i : Nat}, (DataW.weightsAll P e ds).all (· ≤ reachBytes) = true → ds[i]? = some d → (d.weights P e).all (· ≤ reachBytes) = true
  | [], _, _, _, h => by simp at h
  | d :: r, d', 0, hw, h => by
    simp at h; subst h
    simp only [DataW.weightsAll, List.all_append, Bool.and_eq_true] at hw
    exact hw.1
  | d :: r, d', i + 1, hw, h => by
    simp only [DataW.weightsAll, List.all_append, Bool.and_eq_true] at hw
    exact weightsAll_get (ds := r) hw.2 (by simpa using h)
theorem Dec.slice {α : Type} {f : α → List AV} {Q : α → Prop} (ht : P.underlying t = some (.slice e)) (hc : 0 < P.cellsOf e) (he : Dec enc P W e f Q) :
    Dec enc P W t (fun l : List α => [.lst false (l.map f)]) (fun l => l.length * P.bytesOf e ≤ reachBytes ∧ ∀ a ∈ l, Q a) := fun fuel cs x h hw => by
  rcases DataW.trod_slice ht h with ⟨rfl, rfl⟩ | ⟨a, len, cap, elems, rest, n, rfl, rfl, rfl, hb, hl, hm, hlen, hel, hsp, hns⟩
  · exact ⟨[], .one (.lst0 _ _ _ _ (fun h => by cases h) (Nat.zero_le _) (fun _ => rfl) trivial) rfl, by simp, fun a h => by cases h⟩
  simp only [DataW.weights, ht, List.all_cons, List.all_append, Bool.and_eq_true, decide_eq_true_eq, List.length_map] at hw
  obtain ⟨w1, w2, w3⟩ := hw
  have key : ∀ i, i < len → ∃ y, ∃ cs', W.cells? 0 (a.add (i * P.cellsOf e)) (P.cellsOf e) = some cs' ∧ Reads W cs' (f y) ∧ Q y := fun i hi => by
    have h1 := hel i hi
    have hlt : i < elems.length := by omega
    rw [List.getElem?_eq_getElem hlt] at h1
    rw [Option.bind_eq_some_iff] at h1
    obtain ⟨cs', c1, c2⟩ := h1
    obtain ⟨y, y1, y2⟩ := he _ _ _ c2 (weightsAll_get w2 (i := i) (by rw [List.getElem?_map, List.getElem?_eq_getElem hlt]; rfl))
    exact ⟨y, cs', c1, y1, y2⟩
  obtain ⟨l, l1, l2⟩ := exists_list len key
  have hQ : ∀ y ∈ l, Q y := fun y hy => by
    obtain ⟨i, hi⟩ := List.mem_iff_getElem?.1 hy
    obtain ⟨cs', _, _, q⟩ := l2 i y hi
    exact q
  have hbytes : l.length * P.bytesOf e ≤ reachBytes := by
    refine Nat.le_trans (Nat.mul_le_mul_right _ ?_) w1
    omega
  refine ⟨l, .one ?_ rfl, hbytes, hQ⟩
  by_cases h0 : len = 0
  · have : l = [] := List.length_eq_zero_iff.1 (by omega)
    subst this; subst h0
    exact .lst0 _ _ _ _ (fun h => by cases h) hm (fun h => by cases h) trivial
  · obtain ⟨y0, cs0, k1, k2, k3⟩ := key 0 (by omega)
    obtain ⟨_, m1, m2⟩ := World.cells?_some k1
    have hz : cs0[0]? = some cs0[0] := List.getElem?_eq_getElem (by omega)
    have hcell := m2 0 hc
    rw [hz] at hcell
    have ha0 : (a.add (0 * P.cellsOf e)).add 0 = a := by simp [Addr.add]
    rw [ha0] at hcell
    obtain ⟨c, hH, hspot, _⟩ := heapKnow_cell hcell
    obtain ⟨ab, ao, asp⟩ := a
    simp only at hspot hH
    subst hspot
    have hsz : ∀ (i : Nat) (xs : List AV), (l.map f)[i]? = some xs → xs.length = P.cellsOf e ∧ ∀ (j : Nat) (x : AV), xs[j]? = some x → ∃ v, c[ao + i * P.cellsOf e + j]? = some v ∧ Rel (heapKnow W) noLay x v ∧ x.cell1 = true := fun i xs hi => by
      rw [List.getElem?_map, Option.map_eq_some_iff] at hi
      obtain ⟨y, y1, rfl⟩ := hi
      obtain ⟨cs', c1, c2, c3⟩ := l2 i y y1
      obtain ⟨_, n1, n2⟩ := World.cells?_some c1
      refine ⟨by rw [c2.1, n1], fun j x hj => ?_⟩
      have hjlt : j < cs'.length := by rw [← c2.1]; exact (List.getElem?_eq_some_iff.1 hj).1
      have h3 := n2 j (by omega)
      rw [List.getElem?_eq_getElem hjlt, add_mk, add_mk] at h3
      obtain ⟨c', e1, _, e3⟩ := heapKnow_cell h3
      simp only at e1 e3
      rw [hH] at e1; cases e1
      obtain ⟨g1, g2⟩ := c2.2 j x _ hj (List.getElem?_eq_getElem hjlt)
      exact ⟨_, e3, g1, g2⟩
    have := Rel.lst (H := heapKnow W) noLay false (l.map f) ab ao cap (P.cellsOf e) c (fun i j => (c[ao + i * P.cellsOf e + j]?).getD undef) (fun hh => by rw [List.map_eq_nil_iff] at hh; subst hh; simp at l1; omega) hH
      (fun i xs hi => (hsz i xs hi).1) (fun i xs j x hi hj => by obtain ⟨v, v1, _⟩ := (hsz i xs hi).2 j x hj; rw [v1]; rfl)
      (fun i xs j x hi hj => by obtain ⟨v, v1, v2, _⟩ := (hsz i xs hi).2 j x hj; rw [v1]; exact v2) (fun i xs j x hi hj => by obtain ⟨v, v1, v2, v3⟩ := (hsz i xs hi).2 j x hj; exact v3) (fun h => by cases h) (by simp [l1]; exact hl) hm
    rw [List.length_map, l1] at this
    exact this
variable {T : Nat → Option TyI}
theorem cellsOf_of {i : TyI} (hT : TOk P T) (hi : T t = some i) : P.cellsOf t = i.size := by
  obtain ⟨info, d, e1, e2, e3, e4, e5, e6⟩ := tyOf_spec (hT _ _ hi)
  simp [Program.cellsOf, e1, e4]
theorem bytesOf_of {i : TyI} (hT : TOk P T) (hi : T t = some i) : P.bytesOf t = i.bytes := by
  obtain ⟨info, d, e1, e2, e3, e4, e5, e6⟩ := tyOf_spec (hT _ _ hi)
  simp [Program.bytesOf, e1, e5]
theorem Dec.int' {k : IntKind} {i : TyI} (hT : TOk P T) (hi : T t = some i) (hk : i.k = .int k) : Dec enc P W t (fun n : Int => [.int k n]) (fun n => (Lit.int k n).wf = true) := by
  obtain ⟨info, d, e1, e2, e3, e4, e5, e6⟩ := tyOf_spec (hT _ _ hi)
  have hd := tk_int (P := P) (d := d) (e3 ▸ hk)
  subst hd
  exact Dec.int e2
theorem Dec.bool' {i : TyI} (hT : TOk P T) (hi : T t = some i) (hk : i.k = .bool) : Dec enc P W t (fun b : Bool => [.bool b]) (fun _ => True) := by
  obtain ⟨info, d, e1, e2, e3, e4, e5, e6⟩ := tyOf_spec (hT _ _ hi)
  have hd := tk_bool (P := P) (d := d) (e3 ▸ hk)
  subst hd
  exact Dec.bool e2
theorem Dec.string' {i : TyI} (hT : TOk P T) (hi : T t = some i) (hk : i.k = .string) : Dec enc P W t (fun s : ByteArray => [.str s]) (fun s => s.size ≤ maxLen ∧ s.size ≤ reachBytes) := by
  obtain ⟨info, d, e1, e2, e3, e4, e5, e6⟩ := tyOf_spec (hT _ _ hi)
  have hd := tk_string (P := P) (d := d) (e3 ▸ hk)
  subst hd
  exact Dec.string e2
theorem Dec.slice' {α : Type} {f : α → List AV} {Q : α → Prop} {i j : TyI} {u : Nat} (hT : TOk P T) (hi : T t = some i) (hk : i.k = .slice u) (hj : T u = some j) (hp : 0 < j.size) (he : Dec enc P W u f Q) :
    Dec enc P W t (fun l : List α => [.lst false (l.map f)]) (fun l => l.length * j.bytes ≤ reachBytes ∧ ∀ a ∈ l, Q a) := by
  obtain ⟨info, d, e1, e2, e3, e4, e5, e6⟩ := tyOf_spec (hT _ _ hi)
  have hd := tk_slice (P := P) (d := d) (e3 ▸ hk)
  subst hd
  have := Dec.slice (enc := enc) (W := W) e2 (by rw [cellsOf_of hT hj]; exact hp) he
  rwa [bytesOf_of hT hj] at this
theorem weightsEach_get : ∀ {ts : List TypeId} {ds : List (DataW H)} {t : TypeId} {d : DataW H} {i : Nat}, (DataW.weightsEach P ts ds).all (· ≤ reachBytes) = true → ts[i]? = some t → ds[i]? = some d → (d.weights P t).all (· ≤ reachBytes) = true
  | [], _, _, _, _, _, h, _ => by simp at h
  | _ :: _, [], _, _, _, _, _, h => by simp at h
  | t :: ts, d :: ds, t', d', 0, hw, h1, h2 => by
    simp at h1 h2; subst h1; subst h2
    simp only [DataW.weightsEach, List.all_append, Bool.and_eq_true] at hw
    exact hw.1
  | t :: ts, d :: ds, t', d', i + 1, hw, h1, h2 => by
    simp only [DataW.weightsEach, List.all_append, Bool.and_eq_true] at hw
    exact weightsEach_get (ts := ts) (ds := ds) hw.2 (by simpa using h1) (by simpa using h2)
def Parts (enc : TypeId × Value → H) (P : Program) (W : World) (T : Nat → Option TyI) (cs : List Value) (fs : List (Nat × Nat)) : Prop :=
  ∀ (i off u : Nat), fs[i]? = some (off, u) → ∀ {α : Type} {f : α → List AV} {Q : α → Prop}, Dec enc P W u f Q → ∃ a, Reads W ((cs.drop off).take (P.cellsOf u)) (f a) ∧ Q a
theorem struct_parts {i : TyI} {fs : List (Nat × Nat)} (hT : TOk P T) (hi : T t = some i) (hk : i.k = .struct fs) {fuel : Nat} {cs : List Value} {x : DataW H × List MemPlace} (h : DataW.trod enc P W 0 (fun _ => true) true fuel t cs = some x) (hw : (x.1.weights P t).all (· ≤ reachBytes) = true) :
    cs.length = i.size ∧ Parts enc P W T cs fs := by
  obtain ⟨info, d, e1, e2, e3, e4, e5, e6⟩ := tyOf_spec (hT _ _ hi)
  obtain ⟨A, rfl, rfl, _⟩ := tk_struct (P := P) (d := d) (e3 ▸ hk)
  obtain ⟨xs, n, rfl, rfl, hl, hxl, hx⟩ := DataW.trod_struct e2 h
  refine ⟨by rw [hl, cellsOf_of hT hi], fun j off u hj α f Q hd => ?_⟩
  rw [List.getElem?_map, Option.map_eq_some_iff] at hj
  obtain ⟨F, hF, hF2⟩ := hj
  simp only [Prod.mk.injEq] at hF2
  obtain ⟨rfl, rfl⟩ := hF2
  have hFa : A[j]? = some F := by simpa using hF
  have hjlt : j < xs.length := by rw [hxl]; exact (Array.getElem?_eq_some_iff.1 hFa).1
  have h1 := hx j F hFa
  rw [List.getElem?_eq_getElem hjlt] at h1
  simp only [DataW.weights, e2] at hw
  exact hd _ _ _ h1 (weightsEach_get hw (i := j) (by rw [List.getElem?_map, hF]; rfl) (by rw [List.getElem?_map, List.getElem?_eq_getElem hjlt]; rfl))
theorem Reads.nil (W : World) (cs : List Value) : Reads W (cs.take 0) [] := ⟨by simp, fun j x v h => by simp at h⟩
theorem Reads.app {cs : List Value} {off n : Nat} {xs ys : List AV} (h1 : Reads W (cs.take off) xs) (h2 : Reads W ((cs.drop off).take n) ys) (ho : off ≤ cs.length) : Reads W (cs.take (off + n)) (xs ++ ys) := by
  have hl1 : xs.length = off := by rw [h1.1, List.length_take]; omega
  refine ⟨by rw [List.length_append, h2.1, hl1]; simp only [List.length_take, List.length_drop]; omega, fun j x v hx hv => ?_⟩
  rw [List.take_add] at hv
  by_cases hj : j < off
  · rw [List.getElem?_append_left (by omega)] at hx
    rw [List.getElem?_append_left (by rw [List.length_take]; omega)] at hv
    exact h1.2 j x v hx hv
  · rw [List.getElem?_append_right (by omega)] at hx
    rw [List.getElem?_append_right (by rw [List.length_take]; omega)] at hv
    have hll : (List.take off cs).length = off := by rw [List.length_take]; omega
    rw [hll] at hv
    rw [hl1] at hx
    exact h2.2 _ x v hx hv
theorem Reads.all {cs : List Value} {n : Nat} {xs : List AV} (h : Reads W (cs.take n) xs) (hn : cs.length = n) : Reads W cs xs := by
  rwa [List.take_of_length_le (by omega)] at h
theorem Reads.val {v : Value} {xs : List AV} (h : Reads W v.cells.toList xs) (hv : ∃ cs, v = .agg cs) : Rel (heapKnow W) noLay (.agg xs) v := by
  obtain ⟨cs, rfl⟩ := hv
  exact .agg _ _ _ (by simpa [Value.cells] using h.1) fun j x u h1 h2 => (h.2 j x u h1 (by simpa [Value.cells] using h2)).1
theorem okWide_agg {b0 : Nat} {v : Value} {i : TyI} {fs : List (Nat × Nat)} (hT : TOk P T) (hi : T t = some i) (hk : i.k = .struct fs) (h : Value.okWide P W .any b0 t v) : ∃ cs, v = .agg cs := by
  obtain ⟨info, d, e1, e2, e3, e4, e5, e6⟩ := tyOf_spec (hT _ _ hi)
  obtain ⟨A, rfl, _, _⟩ := tk_struct (P := P) (d := d) (e3 ▸ hk)
  unfold Value.okWide at h
  rw [e2] at h
  obtain ⟨cs, h1, _⟩ := h
  exact ⟨cs, h1⟩
theorem Grow.kept {H0 H' : Know} {W W' : World} (g : Grow H0 W H' W') (may : MemPlace → Prop) : W.keptBut W' may := by
  refine ⟨g.os, g.out, fun i hi => ?_⟩
  rw [g.keep i hi]
  split <;> simp_all
theorem post_law {f : Func} {s : ChangeSpec} {apart fresh handsOn : Bool} {W W' : World} {args : Array Value} {v : Value} {ds gs : List (DataW H)} {before pa pv : List MemPlace}
    (hW : DataW.Whole enc P f.params.toList s.vars apart W args.toList ds gs before)
    (hres : ∀ (b : Nat) (sp : Nat → Bool) (hd : Bool), DataW.TrodAll enc P W' b sp hd f.resultTypes.toList (v.resultList f.resultTypes.size) (s.fn H (ds ++ gs)).results [])
    (hargs : ∀ sp : Nat → Bool, (∀ p ∈ before, sp p.block = true) → DataW.TrodAll enc P W' 0 sp true f.params.toList args.toList (s.fn H (ds ++ gs)).args pa)
    (hvars : ∀ sp : Nat → Bool, (∀ p ∈ before, sp p.block = true) → DataW.TrodVars enc P W' sp s.vars (s.fn H (ds ++ gs)).vars pv)
    (hps : before = pa ++ pv) (hk : ∀ may : MemPlace → Prop, W.keptBut W' may) : s.post enc P f apart fresh handsOn false W args v W' := by
  have hold : ∀ p ∈ before, (fun b => decide (b < W.heap.size)) p.block = true := fun p hp => by simpa using hW.lt p hp
  exact ⟨ds, gs, before, [], pa, pv, hW, hres _ _ _, hargs _ hold, hvars _ hold, hk _, fun h => by cases h⟩
theorem trodAll_stays (hl : laidOutB P = true) {W' : World} {sp : Nat → Bool} : ∀ {ts : List TypeId} {vs : List Value} {ds : List (DataW H)} {ps : List MemPlace}, ts.all (fun t => P.readableRec t && decide (t < P.types.size)) = true →
    DataW.TrodAll enc P W 0 (fun _ => true) true ts vs ds ps → (∀ p ∈ ps, W.sameAt W' p) → (∀ p ∈ ps, sp p.block = true) → DataW.TrodAll enc P W' 0 sp true ts vs ds ps
  | [], vs, ds, ps, _, h, _, _ => by
    obtain ⟨rfl, rfl, rfl⟩ := trodAll_nil h
    rfl
  | t :: ts, vs, ds, ps, hr, h, h1, h2 => by
    obtain ⟨v, vs', d, ds', p, q, rfl, rfl, rfl, hd, hrest⟩ := trodAll_cons h
    simp only [List.all_cons, Bool.and_eq_true, decide_eq_true_eq] at hr
    exact ⟨p, q, WideElems.Trod_stays hl hr.1.1 hr.1.2 hd (fun x hx => h1 x (by simp [hx])) (fun x hx => h2 x (by simp [hx])), trodAll_stays hl hr.2 hrest (fun x hx => h1 x (by simp [hx])) (fun x hx => h2 x (by simp [hx])), rfl⟩
theorem Grow.same {H0 H' : Know} {W W' : World} (g : Grow H0 W H' W') {p : MemPlace} (hp : p.block < W.heap.size) : W.sameAt W' p := by
  cases p with
  | cell b off =>
    have := g.keep b hp
    show W'.cell? _ = W.cell? _
    unfold World.cell?
    simp only [this]
  | map b => exact g.keep b hp
theorem law_calls {f : FuncId} {fn : Func} {s : ChangeSpec} {args : Array Value} {ds gs : List (DataW H)} {before : List MemPlace} {tb : TypeId} {xs : List AV} (hl : laidOutB P = true) (hvs : s.vars = []) (hr : fn.params.toList.all (fun t => P.readableRec t && decide (t < P.types.size)) = true)
    (hres : fn.resultTypes = #[tb]) (hb : P.underlying tb = some .bool) (hs1 : (s.fn H (ds ++ gs)).results = [.lit (.bool true)]) (hs2 : (s.fn H (ds ++ gs)).args = ds) (hs3 : (s.fn H (ds ++ gs)).vars = [])
    (hW : DataW.Whole enc P fn.params.toList s.vars false W args.toList ds gs before) (hrel : RelAll (heapKnow W) noLay xs args) (hc : APure P f xs (fun r => r = .bool true)) (hg : GlobOk (heapKnow W)) {fresh handsOn : Bool} :
    Calls P f args W fun e W' => ∃ v, e = .returned v ∧ s.post enc P fn false fresh handsOn false W args v W' := by
  have hW' := hW
  obtain ⟨p, q, hA, hV, rfl, hfz, hnd⟩ := hW
  rw [hvs] at hV
  obtain ⟨rfl, rfl⟩ := trodVars_none hV
  have hlt : ∀ x ∈ p ++ [], x.block < W.heap.size := fun x hx => hW'.lt x hx
  refine (hc (heapKnow W) W args hrel (heapKnow_ok W hg)).mono fun e W' hx => ?_
  obtain ⟨v, r, H', rfl, rfl, h3, h4⟩ := hx
  have hv := h3.bool_inv
  subst hv
  refine ⟨_, rfl, post_law (pa := p) (pv := []) hW' (fun b sp hd => ?_) (fun sp hsp => ?_) (fun sp hsp => ?_) rfl (fun may => h4.kept may)⟩
  · rw [hs1, hres]
    exact trodAll_mk1 (shut_bool hb true)
  · rw [hs2]
    exact trodAll_stays hl hr hA (fun x hx => h4.same (hlt x (by simp [hx]))) (fun x hx => hsp x (by simp [hx]))
  · rw [hs3, hvs]; rfl
theorem RelAll.nil {K : Know} {ι : Lay} : RelAll K ι [] #[] := ⟨rfl, fun j x v h => by simp at h⟩
theorem RelAll.cons {K : Know} {ι : Lay} {x : AV} {xs : List AV} {v : Value} {vs : List Value} (h : Rel K ι x v) (hs : RelAll K ι xs ⟨vs⟩) : RelAll K ι (x :: xs) ⟨v :: vs⟩ := by
  refine ⟨by have := hs.1; simp at this ⊢; exact this, fun j y u h1 h2 => ?_⟩
  cases j with
  | zero => simp at h1 h2; subst h1; subst h2; exact h
  | succ j => exact hs.2 j y u (by simpa using h1) (by simpa using h2)
end
end Go.Proofs.YtbbfelelocccmaaGreat.Sv
namespace Go.Proofs.YtbbfelelocccmaaGreat.Sv
open Go
abbrev ty0 : TyI := ⟨.other, 1, 0, []⟩
abbrev ty1 : TyI := ⟨.fn, 1, 8, [.val .nilFunc]⟩
abbrev ty2 : TyI := ⟨.int .i64, 1, 8, [.int .i64 0]⟩
abbrev ty3 : TyI := ⟨.int .i64, 1, 8, [.int .i64 0]⟩
abbrev ty4 : TyI := ⟨.bool, 1, 1, [.bool false]⟩
abbrev ty5 : TyI := ⟨.int .u8, 1, 1, [.int .u8 0]⟩
abbrev ty6 : TyI := ⟨.int .u8, 1, 1, [.int .u8 0]⟩
abbrev ty7 : TyI := ⟨.struct [(0, 2), (1, 3), (2, 4), (3, 6)], 4, 24, [.int .i64 0, .int .i64 0, .bool false, .int .u8 0]⟩
abbrev ty8 : TyI := ⟨.struct [(0, 2), (1, 3), (2, 4), (3, 6)], 4, 24, [.int .i64 0, .int .i64 0, .bool false, .int .u8 0]⟩
abbrev ty9 : TyI := ⟨.string, 1, 16, [.str ⟨#[]⟩]⟩
abbrev ty10 : TyI := ⟨.string, 1, 16, [.str ⟨#[]⟩]⟩
abbrev ty11 : TyI := ⟨.string, 1, 16, [.str ⟨#[]⟩]⟩
abbrev ty12 : TyI := ⟨.int .u64, 1, 8, [.int .u64 0]⟩
abbrev ty13 : TyI := ⟨.struct [(0, 9), (1, 12)], 2, 24, [.str ⟨#[]⟩, .int .u64 0]⟩
abbrev ty14 : TyI := ⟨.struct [(0, 9), (1, 12)], 2, 24, [.str ⟨#[]⟩, .int .u64 0]⟩
abbrev ty15 : TyI := ⟨.ptr 188, 1, 8, [.nilp]⟩
abbrev ty16 : TyI := ⟨.ptr 191, 1, 8, [.nilp]⟩
abbrev ty17 : TyI := ⟨.ptr 200, 1, 8, [.nilp]⟩
abbrev ty18 : TyI := ⟨.struct [(0, 17)], 1, 8, [.nilp]⟩
abbrev ty19 : TyI := ⟨.struct [(0, 17)], 1, 8, [.nilp]⟩
abbrev ty20 : TyI := ⟨.other, 1, 16, [.val .nilIface]⟩
abbrev ty21 : TyI := ⟨.int .i32, 1, 4, [.int .i32 0]⟩
abbrev ty22 : TyI := ⟨.slice 41, 1, 24, [.nil]⟩
abbrev ty23 : TyI := ⟨.struct [(0, 3), (1, 22)], 2, 32, [.int .i64 0, .nil]⟩
abbrev ty24 : TyI := ⟨.struct [(0, 3), (1, 22)], 2, 32, [.int .i64 0, .nil]⟩
abbrev ty25 : TyI := ⟨.slice 3, 1, 24, [.nil]⟩
abbrev ty26 : TyI := ⟨.fn, 1, 8, [.val .nilFunc]⟩
abbrev ty27 : TyI := ⟨.fn, 1, 8, [.val .nilFunc]⟩
abbrev ty28 : TyI := ⟨.slice 34, 1, 24, [.nil]⟩
abbrev ty29 : TyI := ⟨.int .i64, 1, 8, [.int .i64 0]⟩
abbrev ty30 : TyI := ⟨.other, 1, 0, []⟩
abbrev ty31 : TyI := ⟨.fn, 1, 8, [.val .nilFunc]⟩
abbrev ty32 : TyI := ⟨.fn, 1, 8, [.val .nilFunc]⟩
abbrev ty33 : TyI := ⟨.fn, 1, 8, [.val .nilFunc]⟩
abbrev ty34 : TyI := ⟨.slice 43, 1, 24, [.nil]⟩
abbrev ty35 : TyI := ⟨.slice 112, 1, 24, [.nil]⟩
abbrev ty36 : TyI := ⟨.struct [(0, 35)], 1, 24, [.nil]⟩
abbrev ty37 : TyI := ⟨.struct [(0, 35)], 1, 24, [.nil]⟩
abbrev ty38 : TyI := ⟨.slice 25, 1, 24, [.nil]⟩
abbrev ty39 : TyI := ⟨.slice 80, 1, 24, [.nil]⟩
abbrev ty40 : TyI := ⟨.struct [(0, 3), (1, 39)], 2, 32, [.int .i64 0, .nil]⟩
abbrev ty41 : TyI := ⟨.struct [(0, 3), (1, 39)], 2, 32, [.int .i64 0, .nil]⟩
abbrev ty42 : TyI := ⟨.struct [(0, 3), (1, 37), (2, 38), (3, 41)], 5, 88, [.int .i64 0, .nil, .nil, .int .i64 0, .nil]⟩
abbrev ty43 : TyI := ⟨.struct [(0, 3), (1, 37), (2, 38), (3, 41)], 5, 88, [.int .i64 0, .nil, .nil, .int .i64 0, .nil]⟩
abbrev ty44 : TyI := ⟨.fn, 1, 8, [.val .nilFunc]⟩
abbrev ty45 : TyI := ⟨.fn, 1, 8, [.val .nilFunc]⟩
abbrev ty46 : TyI := ⟨.fn, 1, 8, [.val .nilFunc]⟩
abbrev ty47 : TyI := ⟨.struct [(0, 24), (2, 24), (4, 28), (5, 9)], 6, 104, [.int .i64 0, .nil, .int .i64 0, .nil, .nil, .str ⟨#[]⟩]⟩
abbrev ty48 : TyI := ⟨.struct [(0, 24), (2, 24), (4, 28), (5, 9)], 6, 104, [.int .i64 0, .nil, .int .i64 0, .nil, .nil, .str ⟨#[]⟩]⟩
abbrev ty49 : TyI := ⟨.fn, 1, 8, [.val .nilFunc]⟩
abbrev ty50 : TyI := ⟨.other, 1, 0, []⟩
abbrev ty51 : TyI := ⟨.fn, 1, 8, [.val .nilFunc]⟩
abbrev ty52 : TyI := ⟨.fn, 1, 8, [.val .nilFunc]⟩
abbrev ty53 : TyI := ⟨.fn, 1, 8, [.val .nilFunc]⟩
abbrev ty54 : TyI := ⟨.fn, 1, 8, [.val .nilFunc]⟩
abbrev ty55 : TyI := ⟨.fn, 1, 8, [.val .nilFunc]⟩
abbrev ty56 : TyI := ⟨.fn, 1, 8, [.val .nilFunc]⟩
abbrev ty57 : TyI := ⟨.fn, 1, 8, [.val .nilFunc]⟩
abbrev ty58 : TyI := ⟨.struct [(0, 3), (1, 9), (2, 3)], 3, 32, [.int .i64 0, .str ⟨#[]⟩, .int .i64 0]⟩
abbrev ty59 : TyI := ⟨.struct [(0, 3), (1, 9), (2, 3)], 3, 32, [.int .i64 0, .str ⟨#[]⟩, .int .i64 0]⟩
abbrev ty60 : TyI := ⟨.fn, 1, 8, [.val .nilFunc]⟩
abbrev ty61 : TyI := ⟨.fn, 1, 8, [.val .nilFunc]⟩
abbrev ty62 : TyI := ⟨.fn, 1, 8, [.val .nilFunc]⟩
abbrev ty63 : TyI := ⟨.struct [(0, 24), (2, 24), (4, 24), (6, 28), (7, 28)], 8, 144, [.int .i64 0, .nil, .int .i64 0, .nil, .int .i64 0, .nil, .nil, .nil]⟩
abbrev ty64 : TyI := ⟨.struct [(0, 24), (2, 24), (4, 24), (6, 28), (7, 28)], 8, 144, [.int .i64 0, .nil, .int .i64 0, .nil, .int .i64 0, .nil, .nil, .nil]⟩
abbrev ty65 : TyI := ⟨.fn, 1, 8, [.val .nilFunc]⟩
abbrev ty66 : TyI := ⟨.fn, 1, 8, [.val .nilFunc]⟩
abbrev ty67 : TyI := ⟨.fn, 1, 8, [.val .nilFunc]⟩
abbrev ty68 : TyI := ⟨.fn, 1, 8, [.val .nilFunc]⟩
abbrev ty69 : TyI := ⟨.other, 1, 16, [.val .nilIface]⟩
abbrev ty70 : TyI := ⟨.other, 1, 16, [.val .nilIface]⟩
abbrev ty71 : TyI := ⟨.other, 1, 0, []⟩
abbrev ty72 : TyI := ⟨.fn, 1, 8, [.val .nilFunc]⟩
abbrev ty73 : TyI := ⟨.fn, 1, 8, [.val .nilFunc]⟩
abbrev ty74 : TyI := ⟨.fn, 1, 8, [.val .nilFunc]⟩
abbrev ty75 : TyI := ⟨.other, 1, 0, []⟩
abbrev ty76 : TyI := ⟨.fn, 1, 8, [.val .nilFunc]⟩
abbrev ty77 : TyI := ⟨.fn, 1, 8, [.val .nilFunc]⟩
abbrev ty78 : TyI := ⟨.slice 91, 1, 24, [.nil]⟩
abbrev ty79 : TyI := ⟨.struct [(0, 78), (1, 3), (2, 3), (3, 3), (4, 3)], 5, 56, [.nil, .int .i64 0, .int .i64 0, .int .i64 0, .int .i64 0]⟩
abbrev ty80 : TyI := ⟨.struct [(0, 78), (1, 3), (2, 3), (3, 3), (4, 3)], 5, 56, [.nil, .int .i64 0, .int .i64 0, .int .i64 0, .int .i64 0]⟩
abbrev ty81 : TyI := ⟨.fn, 1, 8, [.val .nilFunc]⟩
abbrev ty82 : TyI := ⟨.fn, 1, 8, [.val .nilFunc]⟩
abbrev ty83 : TyI := ⟨.ptr 87, 1, 8, [.nilp]⟩
abbrev ty84 : TyI := ⟨.slice 89, 1, 24, [.nil]⟩
abbrev ty85 : TyI := ⟨.slice 5, 1, 24, [.nil]⟩
abbrev ty86 : TyI := ⟨.struct [(0, 24), (2, 9), (3, 3), (4, 84), (5, 85), (6, 3), (7, 3), (8, 3)], 9, 128, [.int .i64 0, .nil, .str ⟨#[]⟩, .int .i64 0, .nil, .nil, .int .i64 0, .int .i64 0, .int .i64 0]⟩
abbrev ty87 : TyI := ⟨.struct [(0, 24), (2, 9), (3, 3), (4, 84), (5, 85), (6, 3), (7, 3), (8, 3)], 9, 128, [.int .i64 0, .nil, .str ⟨#[]⟩, .int .i64 0, .nil, .nil, .int .i64 0, .int .i64 0, .int .i64 0]⟩
abbrev ty88 : TyI := ⟨.fn, 1, 8, [.val .nilFunc]⟩
abbrev ty89 : TyI := ⟨.int .u32, 1, 4, [.int .u32 0]⟩
abbrev ty90 : TyI := ⟨.struct [(0, 3), (1, 3), (2, 3), (3, 3), (4, 3), (5, 3), (6, 3), (7, 89)], 8, 64, [.int .i64 0, .int .i64 0, .int .i64 0, .int .i64 0, .int .i64 0, .int .i64 0, .int .i64 0, .int .u32 0]⟩
abbrev ty91 : TyI := ⟨.struct [(0, 3), (1, 3), (2, 3), (3, 3), (4, 3), (5, 3), (6, 3), (7, 89)], 8, 64, [.int .i64 0, .int .i64 0, .int .i64 0, .int .i64 0, .int .i64 0, .int .i64 0, .int .i64 0, .int .u32 0]⟩
abbrev ty92 : TyI := ⟨.fn, 1, 8, [.val .nilFunc]⟩
abbrev ty93 : TyI := ⟨.struct [(0, 3)], 1, 8, [.int .i64 0]⟩
abbrev ty94 : TyI := ⟨.struct [(0, 3)], 1, 8, [.int .i64 0]⟩
abbrev ty95 : TyI := ⟨.fn, 1, 8, [.val .nilFunc]⟩
abbrev ty96 : TyI := ⟨.struct [(0, 94), (1, 95)], 2, 16, [.int .i64 0, .val .nilFunc]⟩
abbrev ty97 : TyI := ⟨.struct [(0, 94), (1, 95)], 2, 16, [.int .i64 0, .val .nilFunc]⟩
abbrev ty98 : TyI := ⟨.struct [(0, 94)], 1, 8, [.int .i64 0]⟩
abbrev ty99 : TyI := ⟨.struct [(0, 94)], 1, 8, [.int .i64 0]⟩
abbrev ty100 : TyI := ⟨.struct [(0, 3), (1, 3), (2, 3), (3, 3)], 4, 32, [.int .i64 0, .int .i64 0, .int .i64 0, .int .i64 0]⟩
abbrev ty101 : TyI := ⟨.struct [(0, 3), (1, 3), (2, 3), (3, 3)], 4, 32, [.int .i64 0, .int .i64 0, .int .i64 0, .int .i64 0]⟩
abbrev ty102 : TyI := ⟨.fn, 1, 8, [.val .nilFunc]⟩
abbrev ty103 : TyI := ⟨.fn, 1, 8, [.val .nilFunc]⟩
abbrev ty104 : TyI := ⟨.fn, 1, 8, [.val .nilFunc]⟩
abbrev ty105 : TyI := ⟨.fn, 1, 8, [.val .nilFunc]⟩
abbrev ty106 : TyI := ⟨.fn, 1, 8, [.val .nilFunc]⟩
abbrev ty107 : TyI := ⟨.fn, 1, 8, [.val .nilFunc]⟩
abbrev ty108 : TyI := ⟨.fn, 1, 8, [.val .nilFunc]⟩
abbrev ty109 : TyI := ⟨.fn, 1, 8, [.val .nilFunc]⟩
abbrev ty110 : TyI := ⟨.fn, 1, 8, [.val .nilFunc]⟩
abbrev ty111 : TyI := ⟨.fn, 1, 8, [.val .nilFunc]⟩
abbrev ty112 : TyI := ⟨.slice 4, 1, 24, [.nil]⟩
abbrev ty113 : TyI := ⟨.fn, 1, 8, [.val .nilFunc]⟩
abbrev ty114 : TyI := ⟨.ptr 118, 1, 8, [.nilp]⟩
abbrev ty115 : TyI := ⟨.fn, 1, 8, [.val .nilFunc]⟩
abbrev ty116 : TyI := ⟨.slice 157, 1, 24, [.nil]⟩
abbrev ty117 : TyI := ⟨.struct [(0, 41), (2, 38), (3, 38), (4, 116), (5, 35), (6, 25), (7, 112)], 8, 176, [.int .i64 0, .nil, .nil, .nil, .nil, .nil, .nil, .nil]⟩
abbrev ty118 : TyI := ⟨.struct [(0, 41), (2, 38), (3, 38), (4, 116), (5, 35), (6, 25), (7, 112)], 8, 176, [.int .i64 0, .nil, .nil, .nil, .nil, .nil, .nil, .nil]⟩
abbrev ty119 : TyI := ⟨.fn, 1, 8, [.val .nilFunc]⟩
abbrev ty120 : TyI := ⟨.struct [(0, 35), (1, 35)], 2, 48, [.nil, .nil]⟩
abbrev ty121 : TyI := ⟨.struct [(0, 35), (1, 35)], 2, 48, [.nil, .nil]⟩
abbrev ty122 : TyI := ⟨.fn, 1, 8, [.val .nilFunc]⟩
abbrev ty123 : TyI := ⟨.fn, 1, 8, [.val .nilFunc]⟩
abbrev ty124 : TyI := ⟨.fn, 1, 8, [.val .nilFunc]⟩
abbrev ty125 : TyI := ⟨.fn, 1, 8, [.val .nilFunc]⟩
abbrev ty126 : TyI := ⟨.ptr 129, 1, 8, [.nilp]⟩
abbrev ty127 : TyI := ⟨.slice 132, 1, 24, [.nil]⟩
abbrev ty128 : TyI := ⟨.struct [(0, 127)], 1, 24, [.nil]⟩
abbrev ty129 : TyI := ⟨.struct [(0, 127)], 1, 24, [.nil]⟩
abbrev ty130 : TyI := ⟨.fn, 1, 8, [.val .nilFunc]⟩
abbrev ty131 : TyI := ⟨.struct [(0, 3), (1, 3), (2, 3), (3, 3), (4, 3), (5, 3), (6, 3), (7, 3), (8, 89)], 9, 72, [.int .i64 0, .int .i64 0, .int .i64 0, .int .i64 0, .int .i64 0, .int .i64 0, .int .i64 0, .int .i64 0, .int .u32 0]⟩
abbrev ty132 : TyI := ⟨.struct [(0, 3), (1, 3), (2, 3), (3, 3), (4, 3), (5, 3), (6, 3), (7, 3), (8, 89)], 9, 72, [.int .i64 0, .int .i64 0, .int .i64 0, .int .i64 0, .int .i64 0, .int .i64 0, .int .i64 0, .int .i64 0, .int .u32 0]⟩
abbrev ty133 : TyI := ⟨.ptr 137, 1, 8, [.nilp]⟩
abbrev ty134 : TyI := ⟨.fn, 1, 8, [.val .nilFunc]⟩
abbrev ty135 : TyI := ⟨.slice 139, 1, 24, [.nil]⟩
abbrev ty136 : TyI := ⟨.struct [(0, 126), (1, 25), (2, 135), (3, 3)], 4, 64, [.nilp, .nil, .nil, .int .i64 0]⟩
abbrev ty137 : TyI := ⟨.struct [(0, 126), (1, 25), (2, 135), (3, 3)], 4, 64, [.nilp, .nil, .nil, .int .i64 0]⟩
abbrev ty138 : TyI := ⟨.struct [(0, 3), (1, 3), (2, 3), (3, 3), (4, 3), (5, 3)], 6, 48, [.int .i64 0, .int .i64 0, .int .i64 0, .int .i64 0, .int .i64 0, .int .i64 0]⟩
abbrev ty139 : TyI := ⟨.struct [(0, 3), (1, 3), (2, 3), (3, 3), (4, 3), (5, 3)], 6, 48, [.int .i64 0, .int .i64 0, .int .i64 0, .int .i64 0, .int .i64 0, .int .i64 0]⟩
abbrev ty140 : TyI := ⟨.other, 1, 0, []⟩
abbrev ty141 : TyI := ⟨.fn, 1, 8, [.val .nilFunc]⟩
abbrev ty142 : TyI := ⟨.int .u64, 1, 8, [.int .u64 0]⟩
abbrev ty143 : TyI := ⟨.fn, 1, 8, [.val .nilFunc]⟩
abbrev ty144 : TyI := ⟨.fn, 1, 8, [.val .nilFunc]⟩
abbrev ty145 : TyI := ⟨.fn, 1, 8, [.val .nilFunc]⟩
abbrev ty146 : TyI := ⟨.map 3 89, 1, 8, [.val (.map none)]⟩
abbrev ty147 : TyI := ⟨.other, 1, 0, []⟩
abbrev ty148 : TyI := ⟨.fn, 1, 8, [.val .nilFunc]⟩
abbrev ty149 : TyI := ⟨.slice 175, 1, 24, [.nil]⟩
abbrev ty150 : TyI := ⟨.struct [(0, 25), (1, 149)], 2, 48, [.nil, .nil]⟩
abbrev ty151 : TyI := ⟨.struct [(0, 25), (1, 149)], 2, 48, [.nil, .nil]⟩
abbrev ty152 : TyI := ⟨.fn, 1, 8, [.val .nilFunc]⟩
abbrev ty153 : TyI := ⟨.struct [(0, 3), (1, 4), (2, 4)], 3, 16, [.int .i64 0, .bool false, .bool false]⟩
abbrev ty154 : TyI := ⟨.struct [(0, 3), (1, 4), (2, 4)], 3, 16, [.int .i64 0, .bool false, .bool false]⟩
abbrev ty155 : TyI := ⟨.ptr 154, 1, 8, [.nilp]⟩
abbrev ty156 : TyI := ⟨.fn, 1, 8, [.val .nilFunc]⟩
abbrev ty157 : TyI := ⟨.slice 161, 1, 24, [.nil]⟩
abbrev ty158 : TyI := ⟨.fn, 1, 8, [.val .nilFunc]⟩
abbrev ty159 : TyI := ⟨.slice 154, 1, 24, [.nil]⟩
abbrev ty160 : TyI := ⟨.struct [(0, 3), (1, 159)], 2, 32, [.int .i64 0, .nil]⟩
abbrev ty161 : TyI := ⟨.struct [(0, 3), (1, 159)], 2, 32, [.int .i64 0, .nil]⟩
abbrev ty162 : TyI := ⟨.fn, 1, 8, [.val .nilFunc]⟩
abbrev ty163 : TyI := ⟨.fn, 1, 8, [.val .nilFunc]⟩
abbrev ty164 : TyI := ⟨.ptr 168, 1, 8, [.nilp]⟩
abbrev ty165 : TyI := ⟨.fn, 1, 8, [.val .nilFunc]⟩
abbrev ty166 : TyI := ⟨.slice 170, 1, 24, [.nil]⟩
abbrev ty167 : TyI := ⟨.struct [(0, 38), (1, 38), (2, 166), (3, 166), (4, 166), (5, 166), (6, 25), (7, 112)], 8, 192, [.nil, .nil, .nil, .nil, .nil, .nil, .nil, .nil]⟩
abbrev ty168 : TyI := ⟨.struct [(0, 38), (1, 38), (2, 166), (3, 166), (4, 166), (5, 166), (6, 25), (7, 112)], 8, 192, [.nil, .nil, .nil, .nil, .nil, .nil, .nil, .nil]⟩
abbrev ty169 : TyI := ⟨.slice 142, 1, 24, [.nil]⟩
abbrev ty170 : TyI := ⟨.slice 142, 1, 24, [.nil]⟩
abbrev ty171 : TyI := ⟨.fn, 1, 8, [.val .nilFunc]⟩
abbrev ty172 : TyI := ⟨.fn, 1, 8, [.val .nilFunc]⟩
abbrev ty173 : TyI := ⟨.fn, 1, 8, [.val .nilFunc]⟩
abbrev ty174 : TyI := ⟨.ptr 151, 1, 8, [.nilp]⟩
abbrev ty175 : TyI := ⟨.map 3 4, 1, 8, [.val (.map none)]⟩
abbrev ty176 : TyI := ⟨.ptr 161, 1, 8, [.nilp]⟩
abbrev ty177 : TyI := ⟨.other, 1, 0, []⟩
abbrev ty178 : TyI := ⟨.fn, 1, 8, [.val .nilFunc]⟩
abbrev ty179 : TyI := ⟨.fn, 1, 8, [.val .nilFunc]⟩
abbrev ty180 : TyI := ⟨.fn, 1, 8, [.val .nilFunc]⟩
abbrev ty181 : TyI := ⟨.fn, 1, 8, [.val .nilFunc]⟩
abbrev ty182 : TyI := ⟨.fn, 1, 8, [.val .nilFunc]⟩
abbrev ty183 : TyI := ⟨.fn, 1, 8, [.val .nilFunc]⟩
abbrev ty184 : TyI := ⟨.fn, 1, 8, [.val .nilFunc]⟩
abbrev ty185 : TyI := ⟨.fn, 1, 8, [.val .nilFunc]⟩
abbrev ty186 : TyI := ⟨.fn, 1, 8, [.val .nilFunc]⟩
abbrev ty187 : TyI := ⟨.struct [(0, 17), (1, 17), (2, 17), (3, 9)], 4, 40, [.nilp, .nilp, .nilp, .str ⟨#[]⟩]⟩
abbrev ty188 : TyI := ⟨.struct [(0, 17), (1, 17), (2, 17), (3, 9)], 4, 40, [.nilp, .nilp, .nilp, .str ⟨#[]⟩]⟩
abbrev ty189 : TyI := ⟨.array 0 16, 0, 0, []⟩
abbrev ty190 : TyI := ⟨.other, 0, 0, []⟩
abbrev ty191 : TyI := ⟨.other, 0, 0, []⟩
abbrev ty192 : TyI := ⟨.fn, 1, 8, [.val .nilFunc]⟩
abbrev ty193 : TyI := ⟨.int .u8, 1, 1, [.int .u8 0]⟩
abbrev ty194 : TyI := ⟨.int .u8, 1, 1, [.int .u8 0]⟩
abbrev ty195 : TyI := ⟨.fn, 1, 8, [.val .nilFunc]⟩
abbrev ty196 : TyI := ⟨.ptr 5, 1, 8, [.nilp]⟩
abbrev ty197 : TyI := ⟨.int .i32, 1, 4, [.int .i32 0]⟩
abbrev ty198 : TyI := ⟨.int .i32, 1, 4, [.int .i32 0]⟩
abbrev ty199 : TyI := ⟨.struct [(0, 12), (1, 12), (2, 89), (3, 193), (4, 5), (5, 5), (6, 194), (7, 195), (8, 196), (9, 197), (10, 198)], 11, 48, [.int .u64 0, .int .u64 0, .int .u32 0, .int .u8 0, .int .u8 0, .int .u8 0, .int .u8 0, .val .nilFunc, .nilp, .int .i32 0, .int .i32 0]⟩
abbrev ty200 : TyI := ⟨.struct [(0, 12), (1, 12), (2, 89), (3, 193), (4, 5), (5, 5), (6, 194), (7, 195), (8, 196), (9, 197), (10, 198)], 11, 48, [.int .u64 0, .int .u64 0, .int .u32 0, .int .u8 0, .int .u8 0, .int .u8 0, .int .u8 0, .val .nilFunc, .nilp, .int .i32 0, .int .i32 0]⟩
abbrev ty201 : TyI := ⟨.fn, 1, 8, [.val .nilFunc]⟩
abbrev ty202 : TyI := ⟨.other, 1, 0, []⟩
abbrev ty203 : TyI := ⟨.fn, 1, 8, [.val .nilFunc]⟩
abbrev ty204 : TyI := ⟨.ptr 208, 1, 8, [.nilp]⟩
abbrev ty205 : TyI := ⟨.map 218 3, 1, 8, [.val (.map none)]⟩
abbrev ty206 : TyI := ⟨.slice 218, 1, 24, [.nil]⟩
abbrev ty207 : TyI := ⟨.struct [(0, 3), (1, 205), (2, 206)], 3, 40, [.int .i64 0, .val (.map none), .nil]⟩
abbrev ty208 : TyI := ⟨.struct [(0, 3), (1, 205), (2, 206)], 3, 40, [.int .i64 0, .val (.map none), .nil]⟩
abbrev ty209 : TyI := ⟨.slice 214, 1, 24, [.nil]⟩
abbrev ty210 : TyI := ⟨.struct [(0, 204), (1, 25), (2, 209), (3, 3)], 4, 64, [.nilp, .nil, .nil, .int .i64 0]⟩
abbrev ty211 : TyI := ⟨.struct [(0, 204), (1, 25), (2, 209), (3, 3)], 4, 64, [.nilp, .nil, .nil, .int .i64 0]⟩
abbrev ty212 : TyI := ⟨.fn, 1, 8, [.val .nilFunc]⟩
abbrev ty213 : TyI := ⟨.array 6 3, 6, 48, [.int .i64 0, .int .i64 0, .int .i64 0, .int .i64 0, .int .i64 0, .int .i64 0]⟩
abbrev ty214 : TyI := ⟨.array 6 3, 6, 48, [.int .i64 0, .int .i64 0, .int .i64 0, .int .i64 0, .int .i64 0, .int .i64 0]⟩
abbrev ty215 : TyI := ⟨.ptr 211, 1, 8, [.nilp]⟩
abbrev ty216 : TyI := ⟨.fn, 1, 8, [.val .nilFunc]⟩
abbrev ty217 : TyI := ⟨.array 4 3, 4, 32, [.int .i64 0, .int .i64 0, .int .i64 0, .int .i64 0]⟩
abbrev ty218 : TyI := ⟨.array 4 3, 4, 32, [.int .i64 0, .int .i64 0, .int .i64 0, .int .i64 0]⟩
abbrev ty219 : TyI := ⟨.fn, 1, 8, [.val .nilFunc]⟩
abbrev ty220 : TyI := ⟨.other, 1, 0, []⟩
abbrev ty221 : TyI := ⟨.fn, 1, 8, [.val .nilFunc]⟩
abbrev ty222 : TyI := ⟨.other, 1, 0, []⟩
abbrev ty223 : TyI := ⟨.fn, 1, 8, [.val .nilFunc]⟩
abbrev ty224 : TyI := ⟨.fn, 1, 8, [.val .nilFunc]⟩
abbrev ty225 : TyI := ⟨.fn, 1, 8, [.val .nilFunc]⟩
abbrev ty226 : TyI := ⟨.fn, 1, 8, [.val .nilFunc]⟩
abbrev ty227 : TyI := ⟨.fn, 1, 8, [.val .nilFunc]⟩
abbrev ty228 : TyI := ⟨.other, 1, 0, []⟩
abbrev ty229 : TyI := ⟨.fn, 1, 8, [.val .nilFunc]⟩
abbrev ty230 : TyI := ⟨.fn, 1, 8, [.val .nilFunc]⟩
abbrev ty231 : TyI := ⟨.fn, 1, 8, [.val .nilFunc]⟩
abbrev ty232 : TyI := ⟨.fn, 1, 8, [.val .nilFunc]⟩
abbrev ty233 : TyI := ⟨.fn, 1, 8, [.val .nilFunc]⟩
abbrev ty234 : TyI := ⟨.slice 236, 1, 24, [.nil]⟩
abbrev ty235 : TyI := ⟨.struct [(0, 3), (1, 3)], 2, 16, [.int .i64 0, .int .i64 0]⟩
abbrev ty236 : TyI := ⟨.struct [(0, 3), (1, 3)], 2, 16, [.int .i64 0, .int .i64 0]⟩
abbrev ty237 : TyI := ⟨.ptr 236, 1, 8, [.nilp]⟩
abbrev ty238 : TyI := ⟨.other, 1, 8, [.nilp]⟩
def TI (t : Nat) : Option TyI := bif Nat.blt t 239 then (bif Nat.blt t 119 then (bif Nat.blt t 59 then (bif Nat.blt t 29 then (bif Nat.blt t 14 then (bif Nat.blt t 7 then (bif Nat.blt t 3 then (bif Nat.blt t 1 then some ty0 else (bif Nat.blt t 2 then some ty1 else some ty2)) else (bif Nat.blt t 5 then (bif Nat.blt t 4 then some ty3 else some ty4) else (bif Nat.blt t 6 then some ty5 else some ty6))) else (bif Nat.blt t 10 then (bif Nat.blt t 8 then some ty7 else (bif Nat.blt t 9 then some ty8 else some ty9)) else (bif Nat.blt t 12 then (bif Nat.blt t 11 then some ty10 else some ty11) else (bif Nat.blt t 13 then some ty12 else some ty13)))) else (bif Nat.blt t 21 then (bif Nat.blt t 17 then (bif Nat.blt t 15 then some ty14 else (bif Nat.blt t 16 then some ty15 else some ty16)) else (bif Nat.blt t 19 then (bif Nat.blt t 18 then some ty17 else some ty18) else (bif Nat.blt t 20 then some ty19 else some ty20))) else (bif Nat.blt t 25 then (bif Nat.blt t 23 then (bif Nat.blt t 22 then some ty21 else some ty22) else (bif Nat.blt t 24 then some ty23 else some ty24)) else (bif Nat.blt t 27 then (bif Nat.blt t 26 then some ty25 else some ty26) else (bif Nat.blt t 28 then some ty27 else some ty28))))) else (bif Nat.blt t 44 then (bif Nat.blt t 36 then (bif Nat.blt t 32 then (bif Nat.blt t 30 then some ty29 else (bif Nat.blt t 31 then some ty30 else some ty31)) else (bif Nat.blt t 34 then (bif Nat.blt t 33 then some ty32 else some ty33) else (bif Nat.blt t 35 then some ty34 else some ty35))) else (bif Nat.blt t 40 then (bif Nat.blt t 38 then (bif Nat.blt t 37 then some ty36 else some ty37) else (bif Nat.blt t 39 then some ty38 else some ty39)) else (bif Nat.blt t 42 then (bif Nat.blt t 41 then some ty40 else some ty41) else (bif Nat.blt t 43 then some ty42 else some ty43)))) else (bif Nat.blt t 51 then (bif Nat.blt t 47 then (bif Nat.blt t 45 then some ty44 else (bif Nat.blt t 46 then some ty45 else some ty46)) else (bif Nat.blt t 49 then (bif Nat.blt t 48 then some ty47 else some ty48) else (bif Nat.blt t 50 then some ty49 else some ty50))) else (bif Nat.blt t 55 then (bif Nat.blt t 53 then (bif Nat.blt t 52 then some ty51 else some ty52) else (bif Nat.blt t 54 then some ty53 else some ty54)) else (bif Nat.blt t 57 then (bif Nat.blt t 56 then some ty55 else some ty56) else (bif Nat.blt t 58 then some ty57 else some ty58)))))) else (bif Nat.blt t 89 then (bif Nat.blt t 74 then (bif Nat.blt t 66 then (bif Nat.blt t 62 then (bif Nat.blt t 60 then some ty59 else (bif Nat.blt t 61 then some ty60 else some ty61)) else (bif Nat.blt t 64 then (bif Nat.blt t 63 then some ty62 else some ty63) else (bif Nat.blt t 65 then some ty64 else some ty65))) else (bif Nat.blt t 70 then (bif Nat.blt t 68 then (bif Nat.blt t 67 then some ty66 else some ty67) else (bif Nat.blt t 69 then some ty68 else some ty69)) else (bif Nat.blt t 72 then (bif Nat.blt t 71 then some ty70 else some ty71) else (bif Nat.blt t 73 then some ty72 else some ty73)))) else (bif Nat.blt t 81 then (bif Nat.blt t 77 then (bif Nat.blt t 75 then some ty74 else (bif Nat.blt t 76 then some ty75 else some ty76)) else (bif Nat.blt t 79 then (bif Nat.blt t 78 then some ty77 else some ty78) else (bif Nat.blt t 80 then some ty79 else some ty80))) else (bif Nat.blt t 85 then (bif Nat.blt t 83 then (bif Nat.blt t 82 then some ty81 else some ty82) else (bif Nat.blt t 84 then some ty83 else some ty84)) else (bif Nat.blt t 87 then (bif Nat.blt t 86 then some ty85 else some ty86) else (bif Nat.blt t 88 then some ty87 else some ty88))))) else (bif Nat.blt t 104 then (bif Nat.blt t 96 then (bif Nat.blt t 92 then (bif Nat.blt t 90 then some ty89 else (bif Nat.blt t 91 then some ty90 else some ty91)) else (bif Nat.blt t 94 then (bif Nat.blt t 93 then some ty92 else some ty93) else (bif Nat.blt t 95 then some ty94 else some ty95))) else (bif Nat.blt t 100 then (bif Nat.blt t 98 then (bif Nat.blt t 97 then some ty96 else some ty97) else (bif Nat.blt t 99 then some ty98 else some ty99)) else (bif Nat.blt t 102 then (bif Nat.blt t 101 then some ty100 else some ty101) else (bif Nat.blt t 103 then some ty102 else some ty103)))) else (bif Nat.blt t 111 then (bif Nat.blt t 107 then (bif Nat.blt t 105 then some ty104 else (bif Nat.blt t 106 then some ty105 else some ty106)) else (bif Nat.blt t 109 then (bif Nat.blt t 108 then some ty107 else some ty108) else (bif Nat.blt t 110 then some ty109 else some ty110))) else (bif Nat.blt t 115 then (bif Nat.blt t 113 then (bif Nat.blt t 112 then some ty111 else some ty112) else (bif Nat.blt t 114 then some ty113 else some ty114)) else (bif Nat.blt t 117 then (bif Nat.blt t 116 then some ty115 else some ty116) else (bif Nat.blt t 118 then some ty117 else some ty118))))))) else (bif Nat.blt t 179 then (bif Nat.blt t 149 then (bif Nat.blt t 134 then (bif Nat.blt t 126 then (bif Nat.blt t 122 then (bif Nat.blt t 120 then some ty119 else (bif Nat.blt t 121 then some ty120 else some ty121)) else (bif Nat.blt t 124 then (bif Nat.blt t 123 then some ty122 else some ty123) else (bif Nat.blt t 125 then some ty124 else some ty125))) else (bif Nat.blt t 130 then (bif Nat.blt t 128 then (bif Nat.blt t 127 then some ty126 else some ty127) else (bif Nat.blt t 129 then some ty128 else some ty129)) else (bif Nat.blt t 132 then (bif Nat.blt t 131 then some ty130 else some ty131) else (bif Nat.blt t 133 then some ty132 else some ty133)))) else (bif Nat.blt t 141 then (bif Nat.blt t 137 then (bif Nat.blt t 135 then some ty134 else (bif Nat.blt t 136 then some ty135 else some ty136)) else (bif Nat.blt t 139 then (bif Nat.blt t 138 then some ty137 else some ty138) else (bif Nat.blt t 140 then some ty139 else some ty140))) else (bif Nat.blt t 145 then (bif Nat.blt t 143 then (bif Nat.blt t 142 then some ty141 else some ty142) else (bif Nat.blt t 144 then some ty143 else some ty144)) else (bif Nat.blt t 147 then (bif Nat.blt t 146 then some ty145 else some ty146) else (bif Nat.blt t 148 then some ty147 else some ty148))))) else (bif Nat.blt t 164 then (bif Nat.blt t 156 then (bif Nat.blt t 152 then (bif Nat.blt t 150 then some ty149 else (bif Nat.blt t 151 then some ty150 else some ty151)) else (bif Nat.blt t 154 then (bif Nat.blt t 153 then some ty152 else some ty153) else (bif Nat.blt t 155 then some ty154 else some ty155))) else (bif Nat.blt t 160 then (bif Nat.blt t 158 then (bif Nat.blt t 157 then some ty156 else some ty157) else (bif Nat.blt t 159 then some ty158 else some ty159)) else (bif Nat.blt t 162 then (bif Nat.blt t 161 then some ty160 else some ty161) else (bif Nat.blt t 163 then some ty162 else some ty163)))) else (bif Nat.blt t 171 then (bif Nat.blt t 167 then (bif Nat.blt t 165 then some ty164 else (bif Nat.blt t 166 then some ty165 else some ty166)) else (bif Nat.blt t 169 then (bif Nat.blt t 168 then some ty167 else some ty168) else (bif Nat.blt t 170 then some ty169 else some ty170))) else (bif Nat.blt t 175 then (bif Nat.blt t 173 then (bif Nat.blt t 172 then some ty171 else some ty172) else (bif Nat.blt t 174 then some ty173 else some ty174)) else (bif Nat.blt t 177 then (bif Nat.blt t 176 then some ty175 else some ty176) else (bif Nat.blt t 178 then some ty177 else some ty178)))))) else (bif Nat.blt t 209 then (bif Nat.blt t 194 then (bif Nat.blt t 186 then (bif Nat.blt t 182 then (bif Nat.blt t 180 then some ty179 else (bif Nat.blt t 181 then some ty180 else some ty181)) else (bif Nat.blt t 184 then (bif Nat.blt t 183 then some ty182 else some ty183) else (bif Nat.blt t 185 then some ty184 else some ty185))) else (bif Nat.blt t 190 then (bif Nat.blt t 188 then (bif Nat.blt t 187 then some ty186 else some ty187) else (bif Nat.blt t 189 then some ty188 else some ty189)) else (bif Nat.blt t 192 then (bif Nat.blt t 191 then some ty190 else some ty191) else (bif Nat.blt t 193 then some ty192 else some ty193)))) else (bif Nat.blt t 201 then (bif Nat.blt t 197 then (bif Nat.blt t 195 then some ty194 else (bif Nat.blt t 196 then some ty195 else some ty196)) else (bif Nat.blt t 199 then (bif Nat.blt t 198 then some ty197 else some ty198) else (bif Nat.blt t 200 then some ty199 else some ty200))) else (bif Nat.blt t 205 then (bif Nat.blt t 203 then (bif Nat.blt t 202 then some ty201 else some ty202) else (bif Nat.blt t 204 then some ty203 else some ty204)) else (bif Nat.blt t 207 then (bif Nat.blt t 206 then some ty205 else some ty206) else (bif Nat.blt t 208 then some ty207 else some ty208))))) else (bif Nat.blt t 224 then (bif Nat.blt t 216 then (bif Nat.blt t 212 then (bif Nat.blt t 210 then some ty209 else (bif Nat.blt t 211 then some ty210 else some ty211)) else (bif Nat.blt t 214 then (bif Nat.blt t 213 then some ty212 else some ty213) else (bif Nat.blt t 215 then some ty214 else some ty215))) else (bif Nat.blt t 220 then (bif Nat.blt t 218 then (bif Nat.blt t 217 then some ty216 else some ty217) else (bif Nat.blt t 219 then some ty218 else some ty219)) else (bif Nat.blt t 222 then (bif Nat.blt t 221 then some ty220 else some ty221) else (bif Nat.blt t 223 then some ty222 else some ty223)))) else (bif Nat.blt t 231 then (bif Nat.blt t 227 then (bif Nat.blt t 225 then some ty224 else (bif Nat.blt t 226 then some ty225 else some ty226)) else (bif Nat.blt t 229 then (bif Nat.blt t 228 then some ty227 else some ty228) else (bif Nat.blt t 230 then some ty229 else some ty230))) else (bif Nat.blt t 235 then (bif Nat.blt t 233 then (bif Nat.blt t 232 then some ty231 else some ty232) else (bif Nat.blt t 234 then some ty233 else some ty234)) else (bif Nat.blt t 237 then (bif Nat.blt t 236 then some ty235 else some ty236) else (bif Nat.blt t 238 then some ty237 else some ty238)))))))) else none
theorem ti_all : (List.range 239).map TI = (List.range 239).map (tyOf Go.Proofs.Tryz.prog) := by kernel_rfl
theorem tok : TOk Go.Proofs.Tryz.prog TI := by
  intro t i h
  by_cases c : t < 239
  · have h1 : ((List.range 239).map TI)[t]? = ((List.range 239).map (tyOf Go.Proofs.Tryz.prog))[t]? := by rw [ti_all]
    rw [List.getElem?_map, List.getElem?_map, List.getElem?_range c] at h1
    simp only [Option.map_some, Option.some.injEq] at h1
    rw [← h1, h]
  · have h2 : Nat.blt t 239 = false := by
      rw [Bool.eq_false_iff]
      intro hc
      exact c (Nat.blt_eq.mp hc)
    unfold TI at h
    rw [h2] at h
    cases h
theorem mix : Go.Proofs.Tryz.prog.follows .mixedOrders = true := by kernel_rfl
structure Tac where
  op : Int
  d : Int
  a : Int
  b : Int
  k : Int
  base : Int
  size : Int
  n : Int
  deriving DecidableEq, Repr
structure Block where
  ins : List Tac
  fin : Int
  v : Int
  to : Int
  els : Int
  deriving DecidableEq, Repr
structure BFunc where
  regs : Int
  blocks : List Block
  deriving DecidableEq, Repr
structure Blocks where
  words : Int
  funcs : List BFunc
  deriving DecidableEq, Repr
structure Cert where
  same : List (List Bool)
  deriving DecidableEq, Repr
def Tac.cells (t : Tac) : List AV := [.int .i64 t.op, .int .i64 t.d, .int .i64 t.a, .int .i64 t.b, .int .i64 t.k, .int .i64 t.base, .int .i64 t.size, .int .u32 t.n]
def insAV (l : List Tac) : AV := .lst false (l.map Tac.cells)
def Block.cells (b : Block) : List AV := [insAV b.ins, .int .i64 b.fin, .int .i64 b.v, .int .i64 b.to, .int .i64 b.els]
def blocksAV (l : List Block) : AV := .lst false (l.map Block.cells)
def BFunc.cells (f : BFunc) : List AV := [.int .i64 f.regs, blocksAV f.blocks]
def funcsAV (l : List BFunc) : AV := .lst false (l.map BFunc.cells)
def Blocks.cells (b : Blocks) : List AV := [.int .i64 b.words, funcsAV b.funcs]
def boolsAV (l : List Bool) : AV := .lst false (l.map fun b => [.bool b])
def intsAV (l : List Int) : AV := .lst false (l.map fun b => [.int .i64 b])
def rowsAV (l : List (List Bool)) : AV := .lst false (l.map fun r => [boolsAV r])
def pathsAV (l : List (List Int)) : AV := .lst false (l.map fun r => [intsAV r])
def Cert.cells (c : Cert) : List AV := [rowsAV c.same]
theorem idx_map {α : Type} {l : List α} {f : α → List AV} {k : Nat} {x : α} (h : l[k]? = some x) : (l.map f)[((k : Nat) : Int).toNat]? = some (f x) := by
  rw [Int.toNat_natCast, List.getElem?_map, h]; rfl
theorem get_of_lt {α : Type} {l : List α} {k : Nat} (h : k < l.length) : ∃ x, l[k]? = some x := ⟨l[k], List.getElem?_eq_getElem h⟩
theorem take_succ_eq {α : Type} {l : List α} {k : Nat} {x : α} (h : l[k]? = some x) : l.take (k + 1) = l.take k ++ [x] := by
  rw [List.take_add_one, h]; rfl
def fitsIns (l : List Tac) : Prop := l.length ≤ maxLen
def Block.fits (x : Block) : Prop := x.ins.length ≤ maxLen
def fitsBlocks (l : List Block) : Prop := l.length ≤ maxLen ∧ ∀ x ∈ l, x.fits
def BFunc.fits (f : BFunc) : Prop := fitsBlocks f.blocks
def fitsFuncs (l : List BFunc) : Prop := l.length ≤ maxLen ∧ ∀ f ∈ l, f.fits
def Blocks.fits (b : Blocks) : Prop := fitsFuncs b.funcs
theorem rel_list {α : Type} {l : List α} {f : α → List AV} {H : Know} {ι : Lay} {ex : Bool} {v : Value} (h : Rel H ι (.lst ex (l.map f)) v) :
    l.length ≤ maxLen ∧ ∀ x ∈ l, ∀ (j : Nat) (y : AV), (f x)[j]? = some y → ∃ u, Rel H noLay y u := by
  refine ⟨by have := lst_max h; simpa using this, fun x hx j y hy => ?_⟩
  obtain ⟨i, hi⟩ := List.mem_iff_getElem?.1 hx
  rcases h.lst_inv with ⟨h0, _⟩ | ⟨_, b, off, cap, sz, c, vals, _, _, _, _, hr, _⟩
  · rw [List.map_eq_nil_iff] at h0; subst h0; simp at hi
  · exact ⟨_, hr i (f x) j y (by rw [List.getElem?_map, hi]; rfl) hy⟩
theorem rel_ins {l : List Tac} {H : Know} {ι : Lay} {v : Value} (h : Rel H ι (insAV l) v) : fitsIns l := (rel_list h).1
theorem rel_blocks {l : List Block} {H : Know} {ι : Lay} {v : Value} (h : Rel H ι (blocksAV l) v) : fitsBlocks l := by
  obtain ⟨h1, h2⟩ := rel_list h
  exact ⟨h1, fun x hx => by obtain ⟨u, hu⟩ := h2 x hx 0 _ rfl; exact rel_ins hu⟩
theorem rel_part {cs : List AV} {H : Know} {ι : Lay} {v : Value} (h : Rel H ι (.agg cs) v) {j : Nat} {x : AV} (hj : cs[j]? = some x) : ∃ u, Rel H ι x u := by
  obtain ⟨us, _, hl, hr⟩ := h.agg_inv
  have hlt : j < us.size := by rw [← hl]; exact (List.getElem?_eq_some_iff.1 hj).1
  obtain ⟨u, hu⟩ := getElem?_some_of_lt hlt
  exact ⟨u, hr j x u hj hu⟩
theorem rel_bfunc {f : BFunc} {H : Know} {ι : Lay} {v : Value} (h : Rel H ι (.agg f.cells) v) : f.fits := by
  obtain ⟨u, hu⟩ := rel_part h (j := 1) rfl
  exact rel_blocks hu
theorem rel_funcs {l : List BFunc} {H : Know} {ι : Lay} {v : Value} (h : Rel H ι (funcsAV l) v) : fitsFuncs l := by
  obtain ⟨h1, h2⟩ := rel_list h
  exact ⟨h1, fun x hx => by obtain ⟨u, hu⟩ := h2 x hx 1 _ rfl; exact rel_blocks hu⟩
theorem rel_prog {b : Blocks} {H : Know} {ι : Lay} {v : Value} (h : Rel H ι (.agg b.cells) v) : b.fits := by
  obtain ⟨u, hu⟩ := rel_part h (j := 1) rfl
  exact rel_funcs hu
theorem AGo.slot {P : Program} {s : AState} {Q : Exit → AState → Prop} {c : Code} (t : Nat) {x : AV} {φ : Prop} (ht : s.env t = some x) (hf : ∀ H ι v, Rel H ι x v → φ) (h : φ → AGo P c s Q) : AGo P c s Q :=
  AGo.fact (fun H ι a w hs => by obtain ⟨v, _, hv⟩ := hs.env t x ht; exact hf H ι v hv) h
theorem lt_of_idx {α : Type} {β : Type} {l : List α} {f : α → β} {k : Nat} (h : decide ((k : Int) < (((l.map f).length : Nat) : Int)) = true) : k < l.length := by simpa using h
theorem ge_of_idx {α : Type} {β : Type} {l : List α} {f : α → β} {k : Nat} (h : decide ((k : Int) < (((l.map f).length : Nat) : Int)) = false) : l.length ≤ k := by simpa using h
theorem Tac.eqCells (x y : Tac) : Sv.eqCells x.cells y.cells = some (decide (x = y)) := by
  have h : Sv.eqCells x.cells y.cells = some (x.op == y.op && (x.d == y.d && (x.a == y.a && (x.b == y.b && (x.k == y.k && (x.base == y.base && (x.size == y.size && (x.n == y.n && true)))))))) := rfl
  rw [h]
  congr 1
  obtain ⟨a1, a2, a3, a4, a5, a6, a7, a8⟩ := x
  obtain ⟨b1, b2, b3, b4, b5, b6, b7, b8⟩ := y
  rw [Bool.eq_iff_iff]
  simp [Tac.mk.injEq]
def setsOp (op : Int) : Bool := op == 1 || (op == 2 || (op == 3 || (op == 4 || (op == 6 || op == 8))))
def Tac.sets (t : Tac) : Int := bif setsOp t.op then t.d else -1
def use1 (op : Int) : Bool := op == 2 || (op == 5 || (op == 6 || op == 9))
def use2 (op : Int) : Bool := op == 3 || op == 7
def Tac.uses (t : Tac) : List Int := bif use1 t.op then [t.a] else bif use2 t.op then [t.a, t.b] else []
theorem uses_len (t : Tac) : t.uses.length ≤ 2 := by
  unfold Tac.uses
  cases use1 t.op <;> cases use2 t.op <;> simp
def within (i n : Int) : Bool := decide (0 ≤ i) && decide (i < n)
theorem use12 (op : Int) : (use1 op && use2 op) = false := by
  rw [Bool.eq_false_iff]; intro h
  simp only [use1, use2, Bool.and_eq_true, Bool.or_eq_true, beq_iff_eq] at h
  omega
def baseOp (op : Int) : Bool := op == 4 || op == 5
def arrOp (op : Int) : Bool := op == 6 || op == 7
def Tac.want (t : Tac) : Tac where
  op := t.op
  d := bif setsOp t.op then t.d else 0
  a := bif use1 t.op || use2 t.op then t.a else 0
  b := bif use2 t.op then t.b else 0
  k := bif t.op == 3 then t.k else 0
  base := bif baseOp t.op || (arrOp t.op || t.op == 10) then t.base else 0
  size := bif arrOp t.op then t.size else 0
  n := bif t.op == 1 then t.n else 0
def Tac.same (x y : Tac) : Bool := x.op == y.op && (x.d == y.d && (x.a == y.a && (x.b == y.b && (x.k == y.k && (x.base == y.base && (x.size == y.size && (x.n == y.n && true)))))))
theorem Tac.same_iff (x y : Tac) : x.same y = true ↔ x = y := by
  have h1 := Tac.eqCells x y
  have h2 : Sv.eqCells x.cells y.cells = some (x.same y) := rfl
  rw [h1] at h2
  have h3 : decide (x = y) = x.same y := by simpa using h2
  rw [← h3, decide_eq_true_iff]
def Tac.rest (t : Tac) (f words : Int) : Bool :=
  bif t.op == 3 then decide (4 ≤ t.k) && decide (t.k ≤ 15)
  else bif baseOp t.op then within t.base words
  else bif arrOp t.op then decide (1 ≤ t.size) && (decide (t.size ≤ 4096) && (decide (0 ≤ t.base) && decide (t.base ≤ words - t.size)))
  else bif t.op == 10 then within t.base f
  else true
def Tac.fits (t : Tac) (f regs words : Int) : Bool :=
  decide (1 ≤ t.op) && (decide (t.op ≤ 10) && ((!setsOp t.op || within t.d regs) && (t.uses.all (fun r => within r regs) && (t.rest f words && t.same t.want))))
theorem sets_pos {t : Tac} (h : decide (t.sets ≥ 0) = true) : setsOp t.op = true := by
  unfold Tac.sets at h
  cases e : setsOp t.op with
  | true => rfl
  | false => rw [e] at h; simp at h
theorem fits_op {t : Tac} {f regs words : Int} (h : ¬ (1 ≤ t.op ∧ t.op ≤ 10)) : t.fits f regs words = false := by
  rw [Bool.eq_false_iff]
  intro h2
  simp only [Tac.fits, Bool.and_eq_true, decide_eq_true_eq] at h2
  exact h ⟨h2.1, h2.2.1⟩
theorem fits_d {t : Tac} {f regs words : Int} (h : setsOp t.op = true) (h2 : within t.d regs = false) : t.fits f regs words = false := by
  simp [Tac.fits, h, h2]
theorem fits_use {t : Tac} {f regs words : Int} (h : t.uses.all (fun r => within r regs) = false) : t.fits f regs words = false := by
  simp only [Tac.fits, h, Bool.false_and, Bool.and_false]
theorem fits_rest {t : Tac} {f regs words : Int} (h : t.rest f words = false) : t.fits f regs words = false := by
  simp only [Tac.fits, h, Bool.false_and, Bool.and_false]
theorem fits_same {t : Tac} {f regs words : Int} (h1 : decide (t.op < 1) = false) (h2 : decide (t.op > 10) = false) (hd : (!setsOp t.op || within t.d regs) = true) (hu : t.uses.all (fun r => within r regs) = true) (hr : t.rest f words = true) : t.fits f regs words = t.same t.want := by
  have h1' : decide (1 ≤ t.op) = true := by simp at h1 ⊢; omega
  have h2' : decide (t.op ≤ 10) = true := by simp at h2 ⊢; omega
  simp only [Tac.fits, h1', h2', hd, hu, hr, Bool.true_and]
def Block.ends (b : Block) (blocks regs : Int) : Bool :=
  bif b.fin == 1 then within b.to blocks && (b.v == 0 && b.els == 0)
  else bif b.fin == 2 then within b.to blocks && (within b.els blocks && within b.v regs)
  else b.fin == 3 && (b.v == 0 && (b.to == 0 && b.els == 0))
def Block.ok (x : Block) (blocks regs number words : Int) : Bool := x.ends blocks regs && x.ins.all (fun t => t.fits number regs words)
def BFunc.one (f : BFunc) (number words : Int) : Bool :=
  decide (0 ≤ f.regs) && (decide (f.regs ≤ 4000) && (!f.blocks.isEmpty && f.blocks.all (fun x => x.ok f.blocks.length f.regs number words)))
def Blocks.right (b : Blocks) : Bool :=
  decide (0 ≤ b.words) && (decide (b.words ≤ 1048576) && (!b.funcs.isEmpty && b.funcs.zipIdx.all (fun p => p.1.one (p.2 : Int) b.words)))
def Block.count (x : Block) : Nat := 1 + x.ins.length
def BFunc.count (f : BFunc) : Nat := (f.blocks.map Block.count).sum
def Blocks.count (b : Blocks) : Nat := (b.funcs.map BFunc.count).sum
theorem one_bad {f : BFunc} {number words : Int} (h : ¬ (0 ≤ f.regs ∧ f.regs ≤ 4000 ∧ f.blocks.length ≠ 0)) : f.one number words = false := by
  rw [Bool.eq_false_iff]; intro h2
  simp only [BFunc.one, Bool.and_eq_true, decide_eq_true_eq, Bool.not_eq_true', List.isEmpty_eq_false_iff] at h2
  exact h ⟨h2.1, h2.2.1, fun e => h2.2.2.1 (List.length_eq_zero_iff.1 e)⟩
theorem one_all {f : BFunc} {number words : Int} (h1 : 0 ≤ f.regs) (h2 : f.regs ≤ 4000) (h3 : f.blocks.length ≠ 0) : f.one number words = f.blocks.all (fun x => x.ok f.blocks.length f.regs number words) := by
  have h3' : f.blocks.isEmpty = false := by
    rw [List.isEmpty_eq_false_iff]; intro e; rw [e] at h3; exact h3 rfl
  simp only [BFunc.one, decide_eq_true h1, decide_eq_true h2, h3', Bool.not_false, Bool.true_and]
theorem right_bad {b : Blocks} (h : ¬ (0 ≤ b.words ∧ b.words ≤ 1048576 ∧ b.funcs.length ≠ 0)) : b.right = false := by
  rw [Bool.eq_false_iff]; intro h2
  simp only [Blocks.right, Bool.and_eq_true, decide_eq_true_eq, Bool.not_eq_true', List.isEmpty_eq_false_iff] at h2
  exact h ⟨h2.1, h2.2.1, fun e => h2.2.2.1 (List.length_eq_zero_iff.1 e)⟩
theorem right_all {b : Blocks} (h1 : 0 ≤ b.words) (h2 : b.words ≤ 1048576) (h3 : b.funcs.length ≠ 0) : b.right = b.funcs.zipIdx.all (fun p => p.1.one (p.2 : Int) b.words) := by
  have h3' : b.funcs.isEmpty = false := by
    rw [List.isEmpty_eq_false_iff]; intro e; rw [e] at h3; exact h3 rfl
  simp only [Blocks.right, decide_eq_true h1, decide_eq_true h2, h3', Bool.not_false, Bool.true_and]
theorem all_succ {α : Type} {l : List α} {p : α → Bool} {k : Nat} {x : α} (hx : l[k]? = some x) (h : (l.take k).all p = true) (hp : p x = true) : (l.take (k + 1)).all p = true := by
  rw [take_succ_eq hx, List.all_append, h]; simp [hp]
theorem all_bad {α : Type} {l : List α} {p : α → Bool} {k : Nat} {x : α} (hx : l[k]? = some x) (hp : p x = false) : l.all p = false := by
  rw [Bool.eq_false_iff]
  intro h
  rw [List.all_eq_true.1 h x (List.mem_of_getElem? hx)] at hp
  cases hp
theorem all_end {α : Type} {l : List α} {p : α → Bool} {k : Nat} (h : (l.take k).all p = true) (hk : l.length ≤ k) : l.all p = true := by
  rwa [List.take_of_length_le hk] at h
theorem sum_succ {α : Type} {l : List α} {p : α → Nat} {k : Nat} {x : α} (hx : l[k]? = some x) : ((l.take (k + 1)).map p).sum = ((l.take k).map p).sum + p x := by
  rw [take_succ_eq hx, List.map_append, List.sum_append]; simp
theorem sum_end {α : Type} {l : List α} {p : α → Nat} {k : Nat} (hk : l.length ≤ k) : ((l.take k).map p).sum = (l.map p).sum := by
  rw [List.take_of_length_le hk]
theorem zipIdx_get {α : Type} {l : List α} {k : Nat} {x : α} (hx : l[k]? = some x) : l.zipIdx[k]? = some (x, k) := by
  rw [List.getElem?_zipIdx, hx]; simp
def big : Nat := 140737488355328
theorem BFunc.ext' {f g : BFunc} (h1 : f.regs = g.regs) (h2 : f.blocks = g.blocks) : f = g := by cases f; cases g; simp_all
theorem take_all {α : Type} {l l' : List α} {k : Nat} (h : l.take k = l'.take k) (h1 : l.length ≤ k) (h2 : l'.length ≤ k) : l = l' := by
  rwa [List.take_of_length_le h1, List.take_of_length_le h2] at h
def wdivide (op a b : Int) : Int × Int := bif b == 0 then (0, 14) else bif op == 7 then (IntKind.u32.wrap (a.tdiv b), 0) else (a.tmod b, 0)
def wshift (op a b : Int) : Int := bif decide (b > 31) then 0 else bif op == 12 then IntKind.u32.wrap (a * 2 ^ (min b.toNat IntKind.u32.bits)) else a.fdiv (2 ^ (min b.toNat IntKind.u32.bits))
def wcompare (op a b : Int) : Int := bif (op == 14 && decide (a < b)) || (op == 15 && a == b) then 1 else 0
def wapp (op a b : Int) : Int × Int :=
  bif op == 4 then (IntKind.u32.wrap (a + b), 0)
  else bif op == 5 then (IntKind.u32.wrap (a - b), 0)
  else bif op == 6 then (IntKind.u32.wrap (a * b), 0)
  else bif op == 7 || op == 8 then wdivide op a b
  else bif op == 9 then (IntKind.u32.wrap ((BitVec.ofInt IntKind.u32.bits a &&& BitVec.ofInt IntKind.u32.bits b).toNat), 0)
  else bif op == 10 then (IntKind.u32.wrap ((BitVec.ofInt IntKind.u32.bits a ||| BitVec.ofInt IntKind.u32.bits b).toNat), 0)
  else bif op == 11 then (IntKind.u32.wrap ((BitVec.ofInt IntKind.u32.bits a ^^^ BitVec.ofInt IntKind.u32.bits b).toNat), 0)
  else bif op == 12 || op == 13 then (wshift op a b, 0)
  else bif op == 14 || op == 15 then (wcompare op a b, 0)
  else (0, 1)
def wpair (p : Int × Int) : AV := .tup [.int .u32 p.1, .int .i64 p.2]
def isW (n : Int) : Prop := 0 ≤ n ∧ n < 4294967296
theorem isW_wrap (n : Int) : isW (IntKind.u32.wrap n) := by
  rw [IntKind.wrap_u32]; constructor <;> omega
theorem wapp_word {op a b : Int} (ha : isW a) (hb : isW b) : isW (wapp op a b).1 := by
  unfold wapp
  cases op == 4 <;> simp only [cond_true, cond_false] <;> try exact isW_wrap _
  cases op == 5 <;> simp only [cond_true, cond_false] <;> try exact isW_wrap _
  cases op == 6 <;> simp only [cond_true, cond_false] <;> try exact isW_wrap _
  cases op == 7 || op == 8
  · simp only [cond_false]
    cases op == 9 <;> simp only [cond_true, cond_false] <;> try exact isW_wrap _
    cases op == 10 <;> simp only [cond_true, cond_false] <;> try exact isW_wrap _
    cases op == 11 <;> simp only [cond_true, cond_false] <;> try exact isW_wrap _
    cases op == 12 || op == 13
    · simp only [cond_false]
      cases op == 14 || op == 15
      · simp only [cond_false]; constructor <;> omega
      · simp only [cond_true, wcompare]
        cases (op == 14 && decide (a < b)) || (op == 15 && a == b) <;> simp only [cond_true, cond_false] <;> constructor <;> omega
    · simp only [cond_true, wshift]
      cases decide (b > 31) <;> simp only [cond_true, cond_false]
      · cases op == 12 <;> simp only [cond_true, cond_false]
        · have hp : (0 : Int) < 2 ^ (min b.toNat IntKind.u32.bits) := Int.pow_pos (by omega)
          rw [Int.fdiv_eq_ediv_of_nonneg _ (Int.le_of_lt hp)]
          refine ⟨Int.ediv_nonneg ha.1 (Int.le_of_lt hp), ?_⟩
          have := Int.ediv_le_self (2 ^ (min b.toNat IntKind.u32.bits)) ha.1
          have := ha.2
          omega
        · exact isW_wrap _
      · constructor <;> omega
  · simp only [cond_true, wdivide]
    cases hz : b == 0 <;> simp only [cond_true, cond_false]
    · cases op == 7 <;> simp only [cond_true, cond_false]
      · rw [Int.tmod_eq_emod_of_nonneg ha.1]
        have hb0 : b ≠ 0 := by simpa using hz
        refine ⟨Int.emod_nonneg _ hb0, ?_⟩
        have := Int.emod_lt_of_pos a (show 0 < b by have := hb.1; omega)
        have := hb.2
        omega
      · exact isW_wrap _
    · constructor <;> omega
theorem isW_zero : isW 0 := by constructor <;> omega
section
variable {P : Program} {T : Nat → Option TyI} {o : Oper} {e : AEnv} {h : AHeap}
end
theorem fill_get {α : Type} {F : List α} {f : α → List AV} {z : List AV} {k n : Nat} (hF : F.length = n) (hk : k < n) : ((F.take k).map f ++ List.replicate (n - k) z)[0 + ((k : Nat) : Int).toNat]? = some z := by
  rw [Int.toNat_natCast, Nat.zero_add, List.getElem?_append_right (by simp; omega)]
  rw [List.getElem?_replicate, if_pos (by simp; omega)]
theorem fill_put {α : Type} {F : List α} {f : α → List AV} {z : List AV} {k n : Nat} {x : α} (hF : F.length = n) (hx : F[k]? = some x) : ((F.take k).map f ++ List.replicate (n - k) z).set (0 + ((k : Nat) : Int).toNat) (f x) = (F.take (k + 1)).map f ++ List.replicate (n - (k + 1)) z := by
  have hk : k < n := by rw [← hF]; exact (List.getElem?_eq_some_iff.1 hx).1
  have hl : ((F.take k).map f).length = k := by simp; omega
  rw [Int.toNat_natCast, Nat.zero_add, List.set_append, if_neg (by omega), hl, Nat.sub_self, take_succ_eq hx, List.map_append, List.append_assoc]
  congr 1
  obtain ⟨m, hm⟩ : ∃ m, n - k = m + 1 := ⟨n - k - 1, by omega⟩
  have hm2 : n - (k + 1) = m := by omega
  rw [hm, hm2]
  rfl
theorem fill_len {α : Type} {F : List α} {f : α → List AV} {z : List AV} {k n : Nat} (hF : F.length = n) (hk : k ≤ n) : n = ((F.take k).map f ++ List.replicate (n - k) z).length := by
  simp; omega
theorem fill_end {α : Type} {F : List α} {f : α → List AV} {z : List AV} {k n : Nat} (hF : F.length = n) (hk : n ≤ k) : ((((F.take k).map f ++ List.replicate (n - k) z).drop 0).take n) = F.map f := by
  rw [Nat.sub_eq_zero_of_le hk, List.drop_zero, List.replicate_zero, List.append_nil, List.take_of_length_le (by simp; omega), List.take_of_length_le (by omega)]
def insW (l : List Tac) : Prop := ∀ t ∈ l, isW t.n
def BFunc.all (f : BFunc) : Cert := ⟨List.replicate f.blocks.length (List.replicate f.regs.toNat true)⟩
end Go.Proofs.YtbbfelelocccmaaGreat.Sv
namespace Go.Proofs.YtbbfelelocccmaaGreat.Sv
open Go Go.ChangeShapes Go.WideShapes Go.ChangeAt Go.RowKit
def isI (n : Int) : Prop := -9223372036854775808 ≤ n ∧ n ≤ 9223372036854775807
theorem wf_i64 {n : Int} (h : (Lit.int .i64 n).wf = true) : isI n := by
  simpa [Lit.wf, IntKind.min, IntKind.max, IntKind.signed, IntKind.bits, isI] using h
theorem wf_u32 {n : Int} (h : (Lit.int .u32 n).wf = true) : isW n := by
  simp [Lit.wf, IntKind.min, IntKind.max, IntKind.signed, IntKind.bits] at h
  exact ⟨h.1, by omega⟩
structure Tac.Ok (t : Tac) : Prop where
  op : isI t.op
  d : isI t.d
  a : isI t.a
  b : isI t.b
  k : isI t.k
  base : isI t.base
  size : isI t.size
  n : isW t.n
structure Block.Ok (x : Block) : Prop where
  len : x.ins.length * 64 ≤ reachBytes
  ins : ∀ t ∈ x.ins, t.Ok
  fin : isI x.fin
  v : isI x.v
  to : isI x.to
  els : isI x.els
structure BFunc.Ok (f : BFunc) : Prop where
  regs : isI f.regs
  len : f.blocks.length * 56 ≤ reachBytes
  blocks : ∀ x ∈ f.blocks, x.Ok
structure Blocks.Ok (b : Blocks) : Prop where
  words : isI b.words
  len : b.funcs.length * 32 ≤ reachBytes
  funcs : ∀ f ∈ b.funcs, f.Ok
theorem BFunc.Ok.insW {f : BFunc} (h : f.Ok) {x : Block} (hx : x ∈ f.blocks) : insW x.ins := fun t ht => ((h.blocks x hx).ins t ht).n
section
variable {H : Type} {enc : TypeId × Value → H} {P : Program} {W : World} {T : Nat → Option TyI}
theorem app1 {cs : List Value} {off u : Nat} {xs ys : List AV} {j : TyI} (hT : TOk P T) (hj : T u = some j) {n : Nat} (hn : j.size = n) (h1 : Reads W (cs.take off) xs) (h2 : Reads W ((cs.drop off).take (P.cellsOf u)) ys) (ho : off ≤ cs.length) : Reads W (cs.take (off + n)) (xs ++ ys) := by
  rw [cellsOf_of hT hj, hn] at h2
  exact h1.app h2 ho
theorem dec_tac {t p q : Nat} (hT : TOk P T) {i j1 j2 : TyI} (hi : T t = some i) (hk : i.k = .struct [(0, p), (1, p), (2, p), (3, p), (4, p), (5, p), (6, p), (7, q)]) (hs : i.size = 8) (h1 : T p = some j1) (k1 : j1.k = .int .i64) (s1 : j1.size = 1) (h2 : T q = some j2) (k2 : j2.k = .int .u32) (s2 : j2.size = 1) :
    Dec enc P W t Tac.cells Tac.Ok := fun fuel cs x h hw => by
  obtain ⟨hl, hp⟩ := struct_parts hT hi hk h hw
  rw [hs] at hl
  obtain ⟨x0, a0, b0⟩ := hp 0 _ _ rfl (Dec.int' hT h1 k1)
  obtain ⟨x1, a1, b1⟩ := hp 1 _ _ rfl (Dec.int' hT h1 k1)
  obtain ⟨x2, a2, b2⟩ := hp 2 _ _ rfl (Dec.int' hT h1 k1)
  obtain ⟨x3, a3, b3⟩ := hp 3 _ _ rfl (Dec.int' hT h1 k1)
  obtain ⟨x4, a4, b4⟩ := hp 4 _ _ rfl (Dec.int' hT h1 k1)
  obtain ⟨x5, a5, b5⟩ := hp 5 _ _ rfl (Dec.int' hT h1 k1)
  obtain ⟨x6, a6, b6⟩ := hp 6 _ _ rfl (Dec.int' hT h1 k1)
  obtain ⟨x7, a7, b7⟩ := hp 7 _ _ rfl (Dec.int' hT h2 k2)
  have c0 := app1 hT h1 s1 (Reads.nil W cs) a0 (by omega)
  have c1 := app1 hT h1 s1 c0 a1 (by omega)
  have c2 := app1 hT h1 s1 c1 a2 (by omega)
  have c3 := app1 hT h1 s1 c2 a3 (by omega)
  have c4 := app1 hT h1 s1 c3 a4 (by omega)
  have c5 := app1 hT h1 s1 c4 a5 (by omega)
  have c6 := app1 hT h1 s1 c5 a6 (by omega)
  have c7 := app1 hT h2 s2 c6 a7 (by omega)
  exact ⟨⟨x0, x1, x2, x3, x4, x5, x6, x7⟩, c7.all hl, ⟨wf_i64 b0, wf_i64 b1, wf_i64 b2, wf_i64 b3, wf_i64 b4, wf_i64 b5, wf_i64 b6, wf_u32 b7⟩⟩
theorem dec_block {t p s u : Nat} (hT : TOk P T) {i j1 j2 j3 : TyI} (hi : T t = some i) (hk : i.k = .struct [(0, s), (1, p), (2, p), (3, p), (4, p)]) (hs : i.size = 5) (h1 : T p = some j1) (k1 : j1.k = .int .i64) (s1 : j1.size = 1)
    (h2 : T s = some j2) (k2 : j2.k = .slice u) (s2 : j2.size = 1) (h3 : T u = some j3) (s3 : j3.size = 8) (b3 : j3.bytes = 64) (hd : Dec enc P W u Tac.cells Tac.Ok) :
    Dec enc P W t Block.cells Block.Ok := fun fuel cs x h hw => by
  obtain ⟨hl, hp⟩ := struct_parts hT hi hk h hw
  rw [hs] at hl
  obtain ⟨x0, a0, b0⟩ := hp 0 _ _ rfl (Dec.slice' hT h2 k2 h3 (by omega) hd)
  obtain ⟨x1, a1, b1⟩ := hp 1 _ _ rfl (Dec.int' hT h1 k1)
  obtain ⟨x2, a2, b2⟩ := hp 2 _ _ rfl (Dec.int' hT h1 k1)
  obtain ⟨x3, a3, b3'⟩ := hp 3 _ _ rfl (Dec.int' hT h1 k1)
  obtain ⟨x4, a4, b4⟩ := hp 4 _ _ rfl (Dec.int' hT h1 k1)
  have c0 := app1 hT h2 s2 (Reads.nil W cs) a0 (by omega)
  have c1 := app1 hT h1 s1 c0 a1 (by omega)
  have c2 := app1 hT h1 s1 c1 a2 (by omega)
  have c3 := app1 hT h1 s1 c2 a3 (by omega)
  have c4 := app1 hT h1 s1 c3 a4 (by omega)
  rw [b3] at b0
  exact ⟨⟨x0, x1, x2, x3, x4⟩, c4.all hl, ⟨b0.1, b0.2, wf_i64 b1, wf_i64 b2, wf_i64 b3', wf_i64 b4⟩⟩
end
theorem le_sum {α : Type} {p : α → Nat} : ∀ {l : List α} {x : α}, x ∈ l → p x ≤ (l.map p).sum
  | y :: l, x, h => by
    rcases List.mem_cons.1 h with rfl | h
    · simp
    · have := le_sum (p := p) h; simp; omega
end Go.Proofs.YtbbfelelocccmaaGreat.Sv
namespace Go.Proofs.YtbbfelelocccmaaGreat
open Go.ChangeShapes Go.WideShapes Go.ChangeAt Go.RowKit Sv
theorem own' : ownKnob Tryz.prog.godebug = none := by kernel_rfl
theorem laidOut' : laidOutB Tryz.prog = true := by kernel_rfl
theorem bool' : Tryz.prog.underlying 4 = some .bool := by kernel_rfl
section
variable {H : Type} {enc : TypeId × Value → H} {W : World}
theorem decTac : Dec enc Tryz.prog W 91 Tac.cells Tac.Ok := dec_tac tok rfl rfl rfl rfl rfl rfl rfl rfl rfl
theorem decBlock : Dec enc Tryz.prog W 80 Block.cells Block.Ok := dec_block tok rfl rfl rfl rfl rfl rfl rfl rfl rfl rfl rfl rfl decTac
end
end Go.Proofs.YtbbfelelocccmaaGreat
namespace Go.Proofs.YtbbfelelocccmaaGreat.Sv
open Go
section
variable {P : Program} {T : Nat → Option TyI} {o : Oper} {e : AEnv} {h : AHeap}
theorem q_makeFunc {f : Fn} {first captured : Array Operand} {xs cs : List AV} (ho : o.op = .makeFunc f first captured) (hx : lookAll e first.toList = some xs) (hc : lookAll e captured.toList = some cs) : QLoc P o e h [] (.fn f xs cs) := by
  intro H ι a w s hs g1 g2
  have hx' : lookAll s.env first.toList = some xs := by
    rw [lookAll_agree (e := e) (fun x hx => g1 x (by rw [ho]; simp [Op.operands]; exact .inl (by simpa using hx)))]; exact hx
  have hc' : lookAll s.env captured.toList = some cs := by
    rw [lookAll_agree (e := e) (fun x hx => g1 x (by rw [ho]; simp [Op.operands]; exact .inr (by simpa using hx)))]; exact hc
  have h1 := relAll_map hs hx'
  have h2 := relAll_map hs hc'
  refine ⟨.func f (first.map a.eval) (captured.map a.eval), .fn _ _ _ _ _ _ h1.1 h2.1 h1.2 h2.2, ?_⟩
  simp only [execOp, ho, Instr.makeFunc, Sem.run_bind, Sem.run_pure, Result.andThen_ok]
theorem relAll_append {H : Know} {ι : Lay} {xs ys : List AV} {us vs : Array Value} (h1 : RelAll H ι xs us) (h2 : RelAll H ι ys vs) : RelAll H ι (xs ++ ys) (us ++ vs) := by
  refine ⟨by simp [h1.1, h2.1], fun j x v g1 g2 => ?_⟩
  by_cases hj : j < xs.length
  · rw [List.getElem?_append_left hj] at g1
    rw [Array.getElem?_append_left (by rw [← h1.1]; exact hj)] at g2
    exact h1.2 j x v g1 g2
  · rw [List.getElem?_append_right (by omega)] at g1
    rw [Array.getElem?_append_right (by rw [← h1.1]; omega), ← h1.1] at g2
    exact h2.2 _ x v g1 g2
theorem o_callF {f : FuncId} {fn : Func} {x : Operand} {args : Array Operand} {tys : Array TypeId} {fs xs cs : List AV} {r : AV} {hc hw : AHeap} (L : List Nat) (W : List (Nat × AObj)) (ho : o.op = .call { callee := .value x, args := args, argTypes := tys }) (hfn : look e x = some (.fn (.func f) fs cs)) (hf : P.funcs[f]? = some fn) (hn : (fn.name == "runtime.NumGoroutine") = false) (hb : fn.body.isSome = true)
    (hx : lookAll e args.toList = some xs) (hxa : (fs ++ xs ++ cs).all (AV.avoid (mem L)) = true) (hL : AllL L fun b => ∃ q, h b = some q ∧ q.avoid (mem L) = true) (hW : W.all (fun p => mem L p.1) = true) (hres' : hres h L = hc)
    (hk : AllL L fun b => ∃ q, hw b = some q ∧ hputs h W b = some q ∧ q.avoid (mem L) = true) (hra : r.avoid (mem L) = true)
    (hcall : ACall P f (fs ++ xs ++ cs) hc (fun r' h' => r' = r ∧ HSub hw h')) : OLoc P o e h L W (some r) := by
  intro H ι a w s Q hs g1 g2
  have hx' : lookAll s.env args.toList = some xs := by
    rw [lookAll_agree (e := e) (fun x hx => g1 x z41q)]; exact hx
  have hfn' : look s.env x = some (.fn (.func f) fs cs) := by rw [g1 x z58q, hfn]
  have hvf := look_rel hs hfn'
  obtain ⟨us, vs, hve, k1, k2, k3, k4⟩ := hvf.fn_inv
  have hraa := relAll_append (relAll_append ⟨k1, k3⟩ (relAll_map hs hx')) ⟨k2, k4⟩
  have hra' : RelAll H (lcut ι (mem L)) (fs ++ xs ++ cs) (us ++ args.map a.eval ++ vs) := ⟨hraa.1, fun j x v h1 h2 => avoid_rel (hraa.2 j x v h1 h2) (all_get hxa h1)⟩
  have hLs : ∀ b ∈ L, ∃ q, s.h b = some q ∧ q.avoid (mem L) = true := fun b hb => by rw [g2 b hb]; exact hL.get b hb
  have hres2 : hres s.h L = hc := by
    rw [← hres']
    funext b
    unfold hres
    cases e : mem L b with
    | true => simp only [cond_true]; exact g2 b (mem_iff.1 e)
    | false => rfl
  have hrc : HeapRel H (lcut ι (mem L)) (hres s.h L) w := by
    have key : ∀ b o, hres s.h L b = some o → o.alive = true → b ∈ L ∧ s.h b = some o := fun b o h1 h2 => by
      unfold hres at h1
      cases e : mem L b with
      | true => rw [e] at h1; exact ⟨mem_iff.1 e, h1⟩
      | false => rw [e] at h1; cases h1; cases h2
    refine ⟨hs.heap.know, fun b hb => ?_, fun b o h1 h2 => ?_, fun b b' o o' r r' h1 h2 h3 h4 h5 h6 => ?_, hs.heap.glob⟩
    · unfold hres at hb
      unfold lcut
      cases e : mem L b with
      | true => rw [e] at hb; exact hs.heap.free b hb
      | false => rfl
    · obtain ⟨k1, k2⟩ := key b o h1 h2
      obtain ⟨r, r1, r2, r3⟩ := hs.heap.obj b o k2 h2
      obtain ⟨q, q1, q2⟩ := hLs b k1
      rw [k2] at q1; cases q1
      exact ⟨r, by rw [lcut_lt (mem_iff.2 k1)]; exact r1, objOk_cut r2 q2, r3⟩
    · exact hs.heap.inj b b' o o' r r' (key b o h1 h2).2 h2 (key b' o' h3 h4).2 h4 (lcut_some h5) (lcut_some h6)
  have hcalls := hcall H (lcut ι (mem L)) w _ hra' (hres2 ▸ hrc)
  have hexec : (execOp a.eval o).run P w = .ok (.enter f (us ++ args.map a.eval ++ vs)) w := by
    simp only [execOp, ho, resolve, hve, Deferred.ofValue, invoke, Sem.run_bind, Sem.run_pure, Result.andThen_ok, run_callFunc hf hn hb]
  unfold Oper.wp
  rw [hexec]
  refine hcalls.mono fun en w' hh => ?_
  obtain ⟨v, r', h', H', ι', rfl, ⟨rfl, hsub⟩, k1, k2, k3⟩ := hh
  have hk' : ∀ b ∈ L, ∃ q, h' b = some q ∧ hputs s.h W b = some q ∧ q.avoid (mem L) = true := fun b hb => by
    obtain ⟨q, q1, q2, q3⟩ := hk.get b hb
    exact ⟨q, hsub b q q1, by rw [hputs_agree (g2 b hb)]; exact q2, q3⟩
  obtain ⟨u1, u2⟩ := call_mix hs.heap hLs (fun p hp => mem_iff.1 (List.all_eq_true.1 hW p hp)) hk' k2 (hres2.symm ▸ k3)
  refine ⟨v, H', _, rfl, fun x ex => ?_, u1, u2⟩
  cases ex
  refine (avoid_rel k1 hra).mono (KLe.refl _) fun b r e => ?_
  by_cases hb : b ∈ L
  · exact ⟨r, by simp only [lmix, mem_iff.2 hb, cond_true]; exact lcut_some e, .inl rfl⟩
  · have : mem L b = false := by cases e : mem L b with | false => rfl | true => exact absurd (mem_iff.1 e) hb
    simp only [lcut, this, cond_false] at e; cases e
theorem q_slice_ref (hT : TOk P T) {t : TypeId} {x y : Operand} {b n len m : Nat} {p : Bool} {sz : Nat} {es : List (List AV)} {i j : TyI} {u : Nat} {k : IntKind} {z : Int} (ho : o.op = .slice t x none (some y) none) (hx : look e x = some (.ref b n 0 len)) (hy : look e y = some (.int k z)) (ht : T t = some i) (hk : i.k = .slice u) (hj : T u = some j)
    (hb : h b = some (.row p sz es)) (hn : n = es.length) (hz : z = (m : Int)) (hm : m ≤ len) : QLoc P o e h [b] (.ref b n 0 m) := by
  intro H ι a w s hs g1 g2
  have hx' : look s.env x = some (.ref b n 0 len) := by rw [g1 x (by rw [ho]; simp [Op.operands]), hx]
  have hy' : look s.env y = some (.int k z) := by rw [g1 y (by rw [ho]; simp [Op.operands]), hy]
  have hb' : s.h b = some (.row p sz es) := by rw [g2 b (by simp), hb]
  subst hz
  obtain ⟨info, d, e1, e2, e3, e4, e5, e6⟩ := tyOf_spec (hT _ _ ht)
  obtain ⟨info', d', e1', e2', e3', e4', e5', e6'⟩ := tyOf_spec (hT _ _ hj)
  have hd := tk_slice (P := P) (d := d) (e3 ▸ hk)
  subst hd
  have hvx := look_rel hs hx'
  have hvy := (look_rel hs hy').int_inv
  generalize hva : a.eval x = va at hvx
  obtain ⟨r, hl, ⟨r1, r2, r3, r4, r5, r6⟩, r7⟩ := hs.heap.obj b _ hb' rfl
  have hrun : ∀ (ad : Option Addr) (cap : Nat), m ≤ cap → va = .slice ad len cap → (execOp a.eval o).run P w = .ok (.value (.slice (if cap = 0 then ad else ad.map (·.add (0 * j.size))) (m - 0) (cap - 0))) w := fun ad cap hcap hv => by
    simp only [execOp, ho, hva, hv, hvy, Instr.sliceAt, Instr.slice, Option.map_none, Option.map_some, Sem.run_bind, run_underlying' e2, Result.andThen_ok, run_isz e1', e4', Sem.run_pure]
    simp [Instr.sliceBounds, Instr.sliceBound, asIntOf, hcap]
  by_cases hsol : r.csz = 0
  · obtain ⟨hl0, ad, rfl, hsp⟩ := hvx.ref_dry hl (by omega) hsol (by omega)
    subst hl0
    obtain rfl : m = 0 := by omega
    refine ⟨_, ?_, hrun ad 0 (Nat.le_refl _) rfl⟩
    simpa using hvx
  · obtain ⟨hlen, cap, rfl, hlc, hcap, hmax⟩ := hvx.ref_live hl (by omega) hsol
    refine ⟨_, ?_, hrun _ cap (by omega) rfl⟩
    have := Rel.refL (H := H) ι b n 0 m cap r hl (by omega) (by omega) (by omega) hcap hmax
    have hadd : (if cap = 0 then some (⟨r.rb, 0 * r.sz, none⟩ : Addr) else (some (⟨r.rb, 0 * r.sz, none⟩ : Addr)).map (·.add (0 * j.size))) = some ⟨r.rb, 0 * r.sz, none⟩ := by
      split
      · rfl
      · simp [Addr.add]
    rw [hadd]
    simpa using this
theorem o_appendIn (hT : TOk P T) {t t' : TypeId} {x y : Operand} {i i' j : TyI} {u u' : Nat} {b n len : Nat} {p : Bool} {sz : Nat} {es : List (List AV)} {cs2 : List AV} {q : AV} {R : List Nat}
    (ho : o.op = .call { callee := .builtin .append, args := #[x, y], argTypes := #[t, t'] }) (hx : look e x = some (.ref b n 0 len)) (hy : look e y = some q) (hi : T t = some i) (hk : i.k = .slice u) (hj : T u = some j) (hi' : T t' = some i') (hk' : i'.k = .slice u')
    (hb : h b = some (.row p sz es)) (hn : n = es.length) (hlt : len < n) (hsz : sz = j.size) (hp : 0 < j.size)
    (hsrc : SrcOf h q R [cs2]) (hu2 : cs2.length = sz) (hpure : p = true → cs2.all AV.isPure1 = true) :
    OLoc P o e h (b :: R) [(b, .row p sz (es.set len cs2))] (some (.ref b n 0 (len + 1))) := by
  intro H ι a w s Q hs g1 g2
  have hx' : look s.env x = some (.ref b n 0 len) := by rw [g1 x z58q, hx]
  have hy' : look s.env y = some q := by rw [g1 y z58q, hy]
  have hb' : s.h b = some (.row p sz es) := by rw [g2 b (by simp), hb]
  have hsrc' := hsrc.agree (h' := s.h) (fun c hc => g2 c (by simp [hc]))
  obtain ⟨info, d, e1, e2, e3, e4, e5, e6⟩ := tyOf_spec (hT _ _ hi)
  obtain ⟨infou, du, f1, f2, f3, f4, f5, f6⟩ := tyOf_spec (hT _ _ hj)
  obtain ⟨info', d', e1', e2', e3', e4', e5', e6'⟩ := tyOf_spec (hT _ _ hi')
  have hd := tk_slice (P := P) (d := d) (e3 ▸ hk)
  subst hd
  have hd' := tk_slice (P := P) (d := d') (e3' ▸ hk')
  subst hd'
  subst hsz; subst hn
  obtain ⟨r, hl, ⟨r1, r2, r3, r4, r5, r6⟩, r7⟩ := hs.heap.obj b _ hb' rfl
  have hvx := look_rel hs hx'
  have hvy := look_rel hs hy'
  generalize hva : a.eval x = va at hvx
  generalize hvb : a.eval y = vb at hvy
  have hexec : ∀ (v : Value) (w' : World), (Builtin.append_ #[t, t'] o.type #[va, vb]).run P w = .ok v w' → (execOp a.eval o).run P w = .ok (.value v) w' := fun v w' hrun => by
    simp only [execOp, ho, resolve, invoke, builtin, Sem.run_bind, Sem.run_pure, Result.andThen_ok, List.map_toArray, List.map_cons, List.map_nil, hva, hvb, hrun]
  obtain ⟨news, hsrcw, hnews⟩ := src_of hs.heap hsrc' hvy e2' hp (by intro cs h; simp at h; subst h; exact hu2) w rfl
  rw [← f4] at hsrcw
  have hnl : news.length = j.size := by rw [hsrcw.newsLen, f4]; simp
  have hsol : r.csz ≠ 0 := fun h0 => by
    have : 0 < es.length * j.size := Nat.mul_pos (by omega) hp
    omega
  obtain ⟨hlen, cap, hvv, hlc, hcap, hmax⟩ := hvx.ref_live hl (by omega) hsol
  obtain ⟨c, TT, w1, w2, w3⟩ := r6 hsol
  simp only [Nat.zero_mul, Nat.zero_add] at hcap hvv
  have hcs : c.size = cap * j.size := by rw [w2, ← hcap, r1]
  have hmul : (len + 1) * j.size ≤ es.length * j.size := Nat.mul_le_mul_right _ (by omega)
  have hmul' : (len + 1) * j.size = len * j.size + j.size := by rw [Nat.add_mul, Nat.one_mul]
  have hroom : len + 1 ≤ cap := by
    refine Nat.le_of_mul_le_mul_right (c := j.size) ?_ hp
    rw [← hcs, w2]; omega
  have hfit : len * infou.size + news.length ≤ c.size := by rw [hnl, f4, w2]; omega
  have hrun := run_append_room_row (P := P) (w := w) t t' o.type u infou e2 f1 r.rb len cap c TT w1 vb 1 news hsrcw hroom hfit
  rw [f4] at hrun hfit
  generalize hC : (c.toList.take (len * j.size) ++ news ++ c.toList.drop (len * j.size + news.length)).toArray = C at *
  have hCs : C.size = c.size := by rw [← hC]; simp; omega
  have hget : ∀ k : Nat, C[k]? = if k < len * j.size then c[k]? else if k < len * j.size + j.size then news[k - len * j.size]? else c[k]? := fun k => by
    rw [← hC]
    simp only [List.getElem?_toArray]
    have hm : (c.toList.take (len * j.size)).length = len * j.size := by simp; omega
    by_cases h1 : k < len * j.size
    · rw [if_pos h1, List.getElem?_append_left (by rw [List.length_append, hm]; omega), List.getElem?_append_left (by rw [hm]; exact h1), List.getElem?_take_of_lt h1, Array.getElem?_toList]
    · rw [if_neg h1]
      by_cases h2 : k < len * j.size + j.size
      · rw [if_pos h2, List.getElem?_append_left (by rw [List.length_append, hm, hnl]; exact h2), List.getElem?_append_right (by rw [hm]; omega), hm]
      · rw [if_neg h2, List.getElem?_append_right (by rw [List.length_append, hm, hnl]; omega), List.length_append, hm, hnl, List.getElem?_drop, Array.getElem?_toList]
        congr 1; omega
  have hll : LLe ι (lput ι b r) := LLe.put fun r' hr' => by rw [hl] at hr'; cases hr'; exact .inl rfl
  have hlens : ∀ (i : Nat) (cs : List AV), (es.set len cs2)[i]? = some cs → cs.length = j.size := fun i cs hc => by
    by_cases hi : len = i
    · subst hi; rw [List.getElem?_set_self hlt] at hc; cases hc; exact hu2
    · rw [List.getElem?_set_ne hi] at hc; exact r5 i cs hc
  have hrow : rowCells H (bif p then noLay else lput ι b r) j.size (es.set len cs2) C := by
    refine ⟨hlens, fun i cs k y hc hk => ?_⟩
    have hkk : k < j.size := by
      rw [← hlens i cs hc]
      exact (List.getElem?_eq_some_iff.1 hk).1
    have hi : i < es.length := by
      have := (List.getElem?_eq_some_iff.1 hc).1
      simpa using this
    by_cases hil : len = i
    · subst hil
      rw [List.getElem?_set_self hlt] at hc; cases hc
      obtain ⟨v, k1, k2, k3⟩ := hnews 0 cs2 k y rfl hk
      rw [Nat.zero_mul, Nat.zero_add] at k1
      refine ⟨v, by rw [hget, if_neg (by omega), if_pos (by omega), Nat.add_sub_cancel_left]; exact k1, ?_, k3⟩
      cases p with
      | false => exact k2.mono (KLe.refl _) hll
      | true => exact pure1_rel (List.all_eq_true.1 (hpure rfl) y (List.mem_of_getElem? hk)) k2
    · rw [List.getElem?_set_ne hil] at hc
      obtain ⟨v, k1, k2, k3⟩ := w3.2 i cs k y hc hk
      refine ⟨v, ?_, ?_, k3⟩
      · rw [hget]
        by_cases h1 : i < len
        · have : (i + 1) * j.size ≤ len * j.size := Nat.mul_le_mul_right _ (by omega)
          rw [Nat.add_mul, Nat.one_mul] at this
          rw [if_pos (by omega)]; exact k1
        · have : (len + 1) * j.size ≤ i * j.size := Nat.mul_le_mul_right _ (by omega)
          rw [if_neg (by omega), if_neg (by omega)]; exact k1
      · cases p with
        | false => exact k2.mono (KLe.refl _) hll
        | true => exact k2
  obtain ⟨u1, u2⟩ := hs.heap.upd (w' := w.setRow r.rb C) (o0 := .row p j.size es) (o' := .row p j.size (es.set len cs2)) (r' := r) hb' rfl
    (.inr ⟨r, hl, rfl, .inl rfl⟩) (fun _ => .inr ⟨r, hl, rfl, hsol, rfl⟩)
    (fun rb hlt' hne => setRow_other w r.rb rb _ (hne r hl rfl hsol)) (by simp) (setRow_os _ _ _) (setRow_out _ _ _)
    ⟨r1, r2, by simp [r3], by simpa using r4, hrow.1, fun _ => ⟨C, TT, w1.setRow hCs, hCs.trans w2, hrow⟩⟩
  have hex := hexec _ _ (hvv ▸ hrun)
  unfold Oper.wp
  rw [hex]
  refine ⟨_, H, _, rfl, (fun x ex => ?_), u1, u2⟩
  cases ex
  have := Rel.refL (H := H) (lput ι b r) b es.length 0 (len + 1) cap _ (lput_same _ _ _) r3 (by omega) hroom (by rw [Nat.zero_add]; exact hcap) hmax
  simpa using this
def pushE (es : List (List AV)) (len : Nat) (cs : List AV) : List (List AV) := if len < es.length then es.set len cs else es ++ [cs]
theorem o_push (hT : TOk P T) {t t' : TypeId} {x y : Operand} {i i' j : TyI} {u u' : Nat} {b n len : Nat} {p : Bool} {sz : Nat} {es : List (List AV)} {cs2 : List AV} {q : AV} {R : List Nat}
    (ho : o.op = .call { callee := .builtin .append, args := #[x, y], argTypes := #[t, t'] }) (hx : look e x = some (.ref b n 0 len)) (hy : look e y = some q) (hi : T t = some i) (hk : i.k = .slice u) (hj : T u = some j) (hi' : T t' = some i') (hk' : i'.k = .slice u')
    (hb : h b = some (.row p sz es)) (hn : n = es.length) (hlt : len ≤ n) (hsz : sz = j.size) (hz : j.zero.length = j.size) (hp : 0 < j.size)
    (hsrc : SrcOf h q R [cs2]) (hu2 : cs2.length = sz) (hpure : p = true → cs2.all AV.isPure1 = true) (hby : (es.length + 1) * j.bytes ≤ 140737488355328) (hml : es.length + 1 ≤ maxLen) :
    OLoc P o e h (b :: R) [(b, .row p sz (pushE es len cs2))] (some (.ref b (pushE es len cs2).length 0 (len + 1))) := by
  by_cases h1 : len < es.length
  · have e1 : pushE es len cs2 = es.set len cs2 := by simp [pushE, h1]
    rw [e1]
    have := o_appendIn hT ho hx hy hi hk hj hi' hk' hb hn (by omega) hsz hp hsrc hu2 hpure
    rw [List.length_set, ← hn]; exact this
  · have e1 : pushE es len cs2 = es ++ [cs2] := by simp [pushE, h1]
    have hl : len = n := by omega
    subst hl
    rw [e1]
    have := o_append hT ho hx hy hi hk hj hi' hk' hb hn hsz hz hp hsrc (by intro cs h; simp at h; subst h; exact hu2) (fun hp cs h => by simp at h; subst h; exact hpure hp) (m := 1) rfl hby hml
    rw [show (es ++ [cs2]).length = len + 1 by simp [hn]]; exact this
end
section
variable {P : Program} {T : Nat → Option TyI} {o : Oper} {e : AEnv} {h : AHeap}
end
def EDropK (k : Nat → Bool) (e' e : AEnv) : Prop := ∀ t x, e' t = some x → e t = some x ∧ x.avoid k = true
def HDropK (k : Nat → Bool) (h' h : AHeap) : Prop := ∀ b o, h' b = some o → (h b = some o ∧ (o.alive = true → k b = true ∧ o.avoid k = true)) ∨ (o = .free ∧ k b = false)
theorem EDropK.new (k : Nat → Bool) (e : AEnv) : EDropK k eNew e := fun _ _ h => by cases h
theorem EDropK.put {k : Nat → Bool} {e' e : AEnv} {t : Nat} {v : AV} (h : EDropK k e' e) (hv : e t = some v) (ha : v.avoid k = true) : EDropK k (eput e' t v) e := fun u x hx => by
  by_cases hu : u = t
  · subst hu; rw [eput_same] at hx; cases hx; exact ⟨hv, ha⟩
  · rw [eput_ne _ _ hu] at hx; exact h u x hx
theorem HDropK.none (k : Nat → Bool) (h : AHeap) : HDropK k hNone h := fun _ _ h => by cases h
theorem HDropK.put {k : Nat → Bool} {h' h : AHeap} {b : Nat} {o : AObj} (hh : HDropK k h' h) (ho : h b = some o) (hb : k b = true) (ha : o.avoid k = true) : HDropK k (hput h' b o) h := fun c x hx => by
  by_cases hc : c = b
  · subst hc; rw [hput_same] at hx; cases hx; exact .inl ⟨ho, fun _ => ⟨hb, ha⟩⟩
  · rw [hput_ne _ _ hc] at hx; exact hh c x hx
section
variable {P : Program} {s : AState} {Q : Exit → AState → Prop}
def NoGoto (Q : Exit → AState → Prop) : Exit → AState → Prop
  | .goto _, _ => False
  | e, s => Q e s
theorem AGo.scope {c : Code} (h : AGo P c s (NoGoto Q)) : AGo P (.scope c) s Q := fun H ι a w hs =>
  wp_scope_straight (wp_mono (h H ι a w hs) fun e a' w' hp => by
    obtain ⟨s', H', ι', q, r, t⟩ := hp
    cases e with
    | goto l => exact q.elim
    | _ => exact ⟨s', H', ι', q, r, t⟩)
end
section
variable {P : Program} {T : Nat → Option TyI} {o : Oper} {e : AEnv} {h : AHeap}
def OCall (P : Program) (o : Oper) (e : AEnv) (h hn : AHeap) (r : AV) : Prop :=
  ∀ (H : Know) (ι : Lay) (a : Act) (w : World) (n : Nat) (Q : Exit → Act → World → Prop), Sim H ι ⟨n, e, h⟩ a w →
    o.wp P a w (fun a' w' => ∃ v H' ι', a' = a.put o.dst v ∧ Rel H' ι' r v ∧ HeapRel H' ι' hn w' ∧ Step H ι h w H' ι' hn w') Q
theorem AOps.call {ops : Array Oper} {rest : List Oper} {n : Nat} {K : AState → Prop} (d : Nat) {hn : AHeap} {r : AV} (hd : o.dst = some d) (hb : Nat.blt d n = true) (hg : guardIs ops o e = some true) (ho : OCall P o e h hn r)
    (hr : AOps P ops rest ⟨n, eput e d r, hn⟩ K) : AOps P ops (o :: rest) ⟨n, e, h⟩ K := by
  intro H ι a w hs
  unfold wpList
  rw [guard_wanted hs hg]
  simp only [if_true]
  refine .inl (Oper.wp_mono (fun a' w' hx => ?_) (ho H ι a w n _ hs))
  obtain ⟨v, H', ι', rfl, h1, h2, h3⟩ := hx
  have hs' := hs.put (d := o.dst) (r := some r) h2 h3 (fun x ex => by cases ex; exact h1) (lt_of hd hb)
  rw [hd] at hs' ⊢
  have := hr H' ι' _ w' hs'
  have key : ∀ (l : List Oper) (a1 : Act) (w1 : World), wpList P ops (Post H' ι' hn w' (Then K fun _ _ => False)) l a1 w1 → wpList P ops (Post H ι h w (Then K fun _ _ => False)) l a1 w1 := by
    have hpost : ∀ e a2 w2, Post H' ι' hn w' (Then K fun _ _ => False) e a2 w2 → Post H ι h w (Then K fun _ _ => False) e a2 w2 := fun e a2 w2 hp => Post.step hs.heap h2 h3 hp
    intro l
    induction l with
    | nil => exact fun a1 w1 hp => hpost _ _ _ hp
    | cons o' l ih =>
      intro a1 w1 hp
      unfold wpList at hp ⊢
      by_cases hw : Region.wanted o' (yielded ops a1.tmps) = true
      · rw [if_pos hw] at hp ⊢
        rcases hp with hp | ⟨hp1, a2, w2, hp2⟩
        · refine .inl ?_
          have hp' := Oper.wp_mono (fun a2 w2 => ih a2 w2) hp
          clear hp
          unfold Oper.wp at hp' ⊢
          generalize (execOp a1.eval o').run P w1 = res at hp' ⊢
          cases res with
          | ok n w3 =>
            cases n <;> simp only [Oper.upon] at hp' ⊢ <;> first
              | exact hp'
              | exact Calls.mono hp' (fun e w4 he => by cases e <;> first | exact he | exact hpost _ _ _ he | (obtain ⟨a3, w5, hp3⟩ := he; exact ⟨a3, w5, hpost _ _ _ hp3⟩))
          | halt x w3 => cases x <;> simp only [Oper.upon] at hp' ⊢ <;> first | exact hpost _ _ _ hp' | exact hp'
        · exact .inr ⟨hp1, a2, w2, hpost _ _ _ hp2⟩
      · rw [if_neg hw] at hp ⊢
        exact ih _ _ hp
  exact key _ _ _ this
theorem o_make0 (hT : TOk P T) {t : TypeId} {x y : Operand} {i j : TyI} {u : Nat} {k k' : IntKind} {zi zj : Int} (ho : o.op = .makeSlice t x y) (hx : look e x = some (.int k zi)) (hy : look e y = some (.int k' zj)) (hni : zi = 0) (hnj : zj = 0) (hi : T t = some i) (hk : i.k = .slice u) (hj : T u = some j)
    (hz : j.zero.length = j.size) (hp : 0 < j.size) (h1 : j.zero.all AV.cell1 = true) : OLoc P o e h [] [] (some (.lst false [])) := by
  intro H ι a w s Q hs g1 g2
  have hx' : look s.env x = some (.int k zi) := by rw [g1 x (by rw [ho]; simp [Op.operands]), hx]
  have hy' : look s.env y = some (.int k' zj) := by rw [g1 y (by rw [ho]; simp [Op.operands]), hy]
  have hvx := (look_rel hs hx').int_inv
  have hvy := (look_rel hs hy').int_inv
  subst hni; subst hnj
  obtain ⟨info, d, e1, e2, e3, e4, e5, e6⟩ := tyOf_spec (hT _ _ hi)
  obtain ⟨info', d', e1', e2', e3', e4', e5', e6'⟩ := tyOf_spec (hT _ _ hj)
  have hd := tk_slice (P := P) (d := d) (e3 ▸ hk)
  subst hd
  obtain ⟨z, hz1, hz2⟩ := zero_spec e6' hz hp
  have hrun := run_make (P := P) w t u info' z e2 e1' hz1 k k' 0 0 (by omega) (by omega) (by simp) (by omega)
  have hexec : (execOp a.eval o).run P w = .ok (.value (.slice (some ⟨w.heap.size, 0, none⟩) 0 0)) (w.alloc (.cells (madeCells z.cells (0 * info'.size)) u)) := by
    simp only [execOp, ho, hvx, hvy, Sem.run_bind, hrun, Result.andThen_ok, Sem.run_pure, Int.toNat_zero]
  unfold Oper.wp
  rw [hexec]
  have hold : ∀ rb, rb < w.heap.size → (w.alloc (.cells (madeCells z.cells (0 * info'.size)) u)).heap[rb]? = w.heap[rb]? := fun rb hlt => heap_alloc_old w _ hlt
  refine ⟨_, H, ι, rfl, (fun x ex => ?_), hs.heap.grow hold, Step.grow hold (by simp) rfl rfl⟩
  cases ex
  exact .lst0 _ _ _ _ (fun h => by cases h) (Nat.zero_le _) (fun _ => rfl) trivial
end
section
variable {P : Program} {Q : Exit → AState → Prop} {s : AState} {c : Code}
def Un (P : Program) (c : Code) (Q : Exit → AState → Prop) : Nat → AState → Prop
  | 0, s => AGo P c s (Then (fun _ => False) Q)
  | n + 1, s => AGo P c s (Then (Un P c Q n) Q)
theorem AGo.un_succ {n : Nat} (h : AGo P c s (Then (Un P c Q n) Q)) : Un P c Q (n + 1) s := h
theorem AGo.un_zero (h : AGo P c s (Then (fun _ => False) Q)) : Un P c Q 0 s := h
theorem un_then0 {e : Exit} {s : AState} {K : AState → Prop} (h : Then (fun _ => False) Q e s) : Then K Q e s := by
  cases e with
  | normal => exact False.elim h
  | _ => exact h
theorem un_then {e : Exit} {s : AState} {g : Nat} (h : Then (Un P c Q g) Q e s) : Then (fun s' => ∃ g', Un P c Q g' s' ∧ g' < g + 1) Q e s := by
  cases e with
  | normal => exact ⟨g, h, Nat.lt_succ_self g⟩
  | _ => exact h
theorem AGo.unroll (n : Nat) (h : Un P c Q n s) : AGo P (.loop c) s Q := by
  refine AGo.loop (Un P c Q) (fun g => g) n h fun g s hg => ?_
  cases g with
  | zero => exact AGo.mono (Q := Then (fun _ => False) Q) hg fun e s h => un_then0 h
  | succ g => exact AGo.mono (Q := Then (Un P c Q g) Q) hg fun e s h => un_then h
end
section
variable {P : Program} {T : Nat → Option TyI} {o : Oper} {e : AEnv} {h : AHeap}
theorem fill_more {f g : Nat → Option (Nat × Nat)} (hfg : ∀ i p, f i = some p → g i = some p) : ∀ (ps : List (Nat × Value)) (cs r : Array Value), Instr.fill f cs ps = some r → Instr.fill g cs ps = some r
  | [], _, _, h => h
  | (i, v) :: ps, cs, r, h => by
    unfold Instr.fill at h ⊢
    cases e : f i with
    | none => rw [e] at h; cases h
    | some p =>
      rw [e] at h
      rw [hfg i p e]
      obtain ⟨off, sz⟩ := p
      simp only at h ⊢
      split at h
      · cases h
      · rename_i hc
        rw [if_neg hc]
        exact fill_more hfg ps _ _ h
def arrFs (len sz u : Nat) : List (Nat × Nat) := (List.range len).map fun k => (k * sz, u)
theorem q_build_arr (hT : TOk P T) {t : TypeId} {parts : Array (Nat × Operand)} {i j : TyI} {len u : Nat} {ps : List (Nat × AV)} {r : List AV} (ho : o.op = .build t parts) (hx : lookParts e parts.toList = some ps) (hi : T t = some i) (hk : i.k = .array len u) (hj : T u = some j) (hz : i.zero.length = i.size) (hp : 0 < i.size)
    (hfit : partsFit T (arrFs len j.size u) ps = true) (hr : partCells (arrFs len j.size u) ps i.zero = some r) : QLoc P o e h [] (.agg r) := by
  intro H ι a w s hs g1 g2
  have hx' : lookParts s.env parts.toList = some ps := by
    rw [lookParts_agree (e := e) (fun x hx => g1 x z47q)]; exact hx
  obtain ⟨l1, l2⟩ := lookParts_rel hs hx'
  obtain ⟨info, d, e1, e2, e3, e4, e5, e6⟩ := tyOf_spec (hT _ _ hi)
  obtain ⟨info', d', e1', e2', e3', e4', e5', e6'⟩ := tyOf_spec (hT _ _ hj)
  have hd := tk_array (P := P) (d := d) (e3 ▸ hk)
  subst hd
  obtain ⟨z, hz1, hz2⟩ := zero_spec e6 hz hp
  obtain ⟨z1, z2⟩ := allAV_rel (H := H) (ι := ι) hz2
  let places : Array (Nat × Nat) := ((List.range len).map fun k => (k * j.size, j.size)).toArray
  have hpl : ∀ (i off t : Nat), (arrFs len j.size u)[i]? = some (off, t) → ∃ i', T t = some i' ∧ places[i]? = some (off, i'.size) := fun i off t h => by
    simp only [arrFs, List.getElem?_map, Option.map_eq_some_iff, Prod.mk.injEq] at h
    obtain ⟨k, hk, rfl, rfl⟩ := h
    exact ⟨j, hj, by simp [places, hk]⟩
  obtain ⟨vs, f1, f2, f3⟩ := fill_rel (T := T) (s := s) (a := a) (w := w) hpl ps (parts.toList.map fun (i, x) => (i, a.eval x)) i.zero z.cells r (by simp [l1]) (fun k p q k1 k2 => ⟨(l2 k p q k1 k2).1, (l2 k p q k1 k2).2, partsFit_get hfit k p k1⟩) (by simpa using z1) (fun j x v k1 k2 => z2 j x v k1 (by simpa using k2)) hr
  have f1' := fill_more (g := fun i => some (i * j.size, j.size)) (fun i p h => by
    simp only [places, List.getElem?_toArray, List.getElem?_map, Option.map_eq_some_iff] at h
    obtain ⟨k, hk, rfl⟩ := h
    have := (List.getElem?_eq_some_iff.1 hk)
    simp at this
    rw [this.2]) _ _ _ f1
  refine ⟨.agg vs, .agg _ _ _ f2 f3, ?_⟩
  have hparts : (parts.map fun (i, x) => (i, a.eval x)).toList = parts.toList.map fun (i, x) => (i, a.eval x) := by simp
  simp only [execOp, ho, Instr.build, zeroValue, typeInfo, Sem.run_bind, run_program, Result.andThen_ok, e1, hz1, Sem.run_pure, run_underlying' e2, run_isz e1', e4', hparts, f1']
end
def byteCells (l : List UInt8) : List (List AV) := l.map fun b => [AV.int .u8 b.toNat]
theorem push_bytes : ∀ (l : List UInt8) (s : ByteArray), (l.map (fun b : UInt8 => ((b.toNat : Nat) : Int))).foldl (fun r n => r.push (UInt8.ofNat n.toNat)) s = ⟨s.data ++ l.toArray⟩
  | [], s => by simp
  | b :: r, s => by
    simp only [List.map_cons, List.foldl_cons, Int.toNat_natCast, UInt8.ofNat_toNat]
    rw [push_bytes r]
    show ByteArray.mk (s.data.push b ++ r.toArray) = _
    congr 1
    apply Array.toList_inj.1
    simp
theorem push_all (l : List UInt8) : (l.map (fun b : UInt8 => ((b.toNat : Nat) : Int))).foldl (fun r n => r.push (UInt8.ofNat n.toNat)) ByteArray.empty = ⟨l.toArray⟩ := by
  rw [push_bytes]
  show ByteArray.mk (#[] ++ l.toArray) = _
  simp
section
variable {P : Program} {T : Nat → Option TyI} {o : Oper} {e : AEnv} {h : AHeap}
end
section
variable {P : Program} {T : Nat → Option TyI} {o : Oper} {e : AEnv} {h : AHeap}
end
section
variable {P : Program} {T : Nat → Option TyI} {o : Oper} {e : AEnv} {h : AHeap}
theorem q_slice3 (hT : TOk P T) {t : TypeId} {x y y' : Operand} {ex : Bool} {es : List (List AV)} {i j : TyI} {u : Nat} {k k' : IntKind} (ho : o.op = .slice t x none (some y) (some y')) (hx : look e x = some (.lst ex es)) (hy : look e y = some (.int k (es.length : Int))) (hy' : look e y' = some (.int k' (es.length : Int))) (ht : T t = some i) (hk : i.k = .slice u) (hj : T u = some j) :
    QLoc P o e h [] (.lst true es) := by
  intro H ι a w s hs g1 g2
  have hx' : look s.env x = some (.lst ex es) := by rw [g1 x (by rw [ho]; simp [Op.operands]), hx]
  have hy1 : look s.env y = some (.int k (es.length : Int)) := by rw [g1 y (by rw [ho]; simp [Op.operands]), hy]
  have hy2 : look s.env y' = some (.int k' (es.length : Int)) := by rw [g1 y' (by rw [ho]; simp [Op.operands]), hy']
  obtain ⟨info, d, e1, e2, e3, e4, e5, e6⟩ := tyOf_spec (hT _ _ ht)
  obtain ⟨info', d', e1', e2', e3', e4', e5', e6'⟩ := tyOf_spec (hT _ _ hj)
  have hd := tk_slice (P := P) (d := d) (e3 ▸ hk)
  subst hd
  have hvx := look_rel hs hx'
  have hv1 := (look_rel hs hy1).int_inv
  have hv2 := (look_rel hs hy2).int_inv
  generalize hva : a.eval x = va at hvx
  have hrun : ∀ (ad : Option Addr) (cap : Nat), es.length ≤ cap → va = .slice ad es.length cap → (execOp a.eval o).run P w = .ok (.value (.slice (if es.length = 0 then ad else ad.map (·.add (0 * j.size))) (es.length - 0) (es.length - 0))) w := fun ad cap hcap hv => by
    simp only [execOp, ho, hva, hv, hv1, hv2, Instr.sliceAt, Instr.slice, Option.map_none, Option.map_some, Sem.run_bind, run_underlying' e2, Result.andThen_ok, run_isz e1', e4', Sem.run_pure]
    simp [Instr.sliceBounds, Instr.sliceBound, asIntOf, hcap]
  rcases hvx.lst_inv with ⟨rfl, ad, cap, rfl, h1, h2, h3, h4⟩ | ⟨hne, b, off, cap, sz, c, vals, rfl, hb, hsz', hv, hr, hc1, hex, hcap, hmax⟩
  · refine ⟨_, ?_, hrun ad cap (Nat.zero_le _) rfl⟩
    simp only [List.length_nil, if_true, Nat.sub_zero]
    exact .lst0 _ _ _ _ (fun _ => rfl) (Nat.zero_le _) (fun _ => rfl) trivial
  · refine ⟨_, ?_, hrun _ cap hcap rfl⟩
    have hl : es.length ≠ 0 := fun h => hne (List.eq_nil_of_length_eq_zero h)
    rw [if_neg hl]
    have hadd : (some (⟨b, off, none⟩ : Addr)).map (·.add (0 * j.size)) = some ⟨b, off, none⟩ := by simp [Addr.add]
    rw [hadd, Nat.sub_zero]
    exact .lst ι true es b off es.length sz c vals hne hb hsz' hv hr hc1 (fun _ => rfl) (Nat.le_refl _) (by omega)
def jAV (f : Bool) (b : Nat) (es : List (List AV)) : AV := bif f then .lst true es else .ref b es.length 0 es.length
def jObj (f : Bool) (sz : Nat) (es : List (List AV)) : AObj := bif f then .free else .row true sz es
theorem o_appendJ (hT : TOk P T) {t t' : TypeId} {x y : Operand} {i i' j : TyI} {u u' : Nat} {f ex2 : Bool} {sz : Nat} {es es2 : List (List AV)} (b : Nat)
    (ho : o.op = .call { callee := .builtin .append, args := #[x, y], argTypes := #[t, t'] }) (hx : look e x = some (jAV f b es)) (hy : look e y = some (.lst ex2 es2)) (hi : T t = some i) (hk : i.k = .slice u) (hj : T u = some j) (hi' : T t' = some i') (hk' : i'.k = .slice u')
    (hb : h b = some (jObj f sz es)) (hsz : sz = j.size) (hz : j.zero.length = j.size) (hp : 0 < j.size)
    (hu : ∀ cs ∈ es, cs.length = sz) (hpu : ∀ cs ∈ es, cs.all AV.isPure1 = true) (hu2 : ∀ cs ∈ es2, cs.length = sz) (hpure : ∀ cs ∈ es2, cs.all AV.isPure1 = true)
    (hby : (es.length + es2.length) * j.bytes ≤ 140737488355328) (hml : es.length + es2.length ≤ maxLen) :
    OLoc P o e h [b] [(b, jObj (f && es2.isEmpty) sz (es ++ es2))] (some (jAV (f && es2.isEmpty) b (es ++ es2))) := by
  cases f with
  | false =>
    have := o_append hT ho hx hy hi hk hj hi' hk' hb rfl hsz hz hp (.lst ex2 es2) hu2 (fun _ => hpure) (m := es2.length) rfl hby hml
    simpa [jAV, jObj] using this
  | true =>
    simp only [jAV, jObj, cond_true] at hx hb
    cases hes2 : es2 with
    | nil =>
      subst hes2
      simp only [List.isEmpty_nil, Bool.and_self, List.append_nil, jObj, jAV, cond_true]
      intro H ι a w s Q hs g1 g2
      have hx' : look s.env x = some (.lst true es) := by rw [g1 x z58q, hx]
      have hy' : look s.env y = some (.lst ex2 []) := by rw [g1 y z58q, hy]
      have hb' : s.h b = some .free := by rw [g2 b (by simp), hb]
      obtain ⟨info, d, e1, e2, e3, e4, e5, e6⟩ := tyOf_spec (hT _ _ hi)
      obtain ⟨infou, du, f1, f2, f3, f4, f5, f6⟩ := tyOf_spec (hT _ _ hj)
      obtain ⟨info', d', e1', e2', e3', e4', e5', e6'⟩ := tyOf_spec (hT _ _ hi')
      have hd := tk_slice (P := P) (d := d) (e3 ▸ hk)
      subst hd
      have hd' := tk_slice (P := P) (d := d') (e3' ▸ hk')
      subst hd'
      have hvx := look_rel hs hx'
      have hvy := look_rel hs hy'
      generalize hva : a.eval x = va at hvx
      generalize hvb : a.eval y = vb at hvy
      obtain ⟨news, hsrcw, hnews⟩ := src_of hs.heap (SrcOf.lst ex2 []) hvy e2' hp (by intro cs h; cases h) w rfl
      rw [← f4] at hsrcw
      have hnn : news = [] := List.eq_nil_of_length_eq_zero (by rw [hsrcw.newsLen]; simp)
      subst hnn
      have hsame : hputs s.h [(b, .free)] = s.h := by
        funext c
        by_cases hc : c = b
        · subst hc; simp [hputs, hput_same, hb']
        · simp [hputs, hput_ne _ _ hc]
      have hexec : ∀ (v : Value) (w' : World), (Builtin.append_ #[t, t'] o.type #[va, vb]).run P w = .ok v w' → (execOp a.eval o).run P w = .ok (.value v) w' := fun v w' hrun => by
        simp only [execOp, ho, resolve, invoke, builtin, Sem.run_bind, Sem.run_pure, Result.andThen_ok, List.map_toArray, List.map_cons, List.map_nil, hva, hvb, hrun]
      have hrun : (Builtin.append_ #[t, t'] o.type #[va, vb]).run P w = .ok va w := by
        rcases hvx.lst_inv with ⟨rfl, ad, cap, rfl, h1, h2, h3, h4⟩ | ⟨hne, b0, off, cap, sz0, c, vals, rfl, hb0, hsz', hv, hr, hc1, hex, hcap, hmax⟩
        · have := h1 rfl
          subst this
          exact run_append_dry t t' o.type u infou e2 f1 ad vb hsrcw
        · have hsrc0 : Src P infou.size t' vb 0 [] w := hsrcw
          have h1 := hsrc0.len
          have h2 := hsrc0.cells
          rcases hsrcw.kind with ⟨e', hk⟩ | hk <;> simp [Builtin.append_, run_underlying e2, run_underlying hk, sizeOf, typeInfo, f1, h1, h2, hcap, storeCells]
      unfold Oper.wp
      rw [hexec _ _ hrun, hsame]
      exact ⟨va, H, ι, rfl, (fun x ex => by have := Option.some.inj ex; subst this; exact hvx), hs.heap, Step.refl _ _ _ _⟩
    | cons y0 r0 =>
      rw [← hes2]
      have hpos : 0 < es2.length := by rw [hes2]; simp
      have hie : es2.isEmpty = false := by rw [hes2]; rfl
      simp only [hie, Bool.and_false, jObj, jAV, cond_false]
      subst hsz
      refine OLoc.of_new hb (by simp) hp fun H ι a w s hs g1 g2 => ?_
      have hx' : look s.env x = some (.lst true es) := by rw [g1 x z58q, hx]
      have hy' : look s.env y = some (.lst ex2 es2) := by rw [g1 y z58q, hy]
      obtain ⟨info, d, e1, e2, e3, e4, e5, e6⟩ := tyOf_spec (hT _ _ hi)
      obtain ⟨infou, du, f1, f2, f3, f4, f5, f6⟩ := tyOf_spec (hT _ _ hj)
      obtain ⟨info', d', e1', e2', e3', e4', e5', e6'⟩ := tyOf_spec (hT _ _ hi')
      have hd := tk_slice (P := P) (d := d) (e3 ▸ hk)
      subst hd
      have hd' := tk_slice (P := P) (d := d') (e3' ▸ hk')
      subst hd'
      obtain ⟨z, hz1, hz2⟩ := zero_spec f6 hz hp
      have hzl : z.cells.size = j.size := by rw [← hz]; simpa using (allAV_rel (H := H) (ι := noLay) hz2).1.symm
      have hvx := look_rel hs hx'
      have hvy := look_rel hs hy'
      generalize hva : a.eval x = va at hvx
      generalize hvb : a.eval y = vb at hvy
      have hexec : ∀ (v : Value) (w' : World), (Builtin.append_ #[t, t'] o.type #[va, vb]).run P w = .ok v w' → (execOp a.eval o).run P w = .ok (.value v) w' := fun v w' hrun => by
        simp only [execOp, ho, resolve, invoke, builtin, Sem.run_bind, Sem.run_pure, Result.andThen_ok, List.map_toArray, List.map_cons, List.map_nil, hva, hvb, hrun]
      obtain ⟨news, hsrcw, hnews⟩ := src_of hs.heap (SrcOf.lst ex2 es2) hvy e2' hp hu2 w rfl
      rw [← f4] at hsrcw
      have hnl : news.length = es2.length * j.size := by rw [hsrcw.newsLen, f4]
      have h63 : ((es.length + es2.length : Nat) : Int) ≤ 9223372036854775807 := by
        have := hml; simp only [maxLen] at this; omega
      -- what stands there already
      obtain ⟨base, olds, hv, hold, hol, holdr⟩ : ∃ (base : Option Addr) (olds : List Value), va = .slice base es.length es.length ∧ (Builtin.firstCells infou.size es.length (.slice base es.length es.length)).run P w.drew = .ok olds.toArray w.drew ∧ olds.length = es.length * j.size ∧
          (∀ (i : Nat) (cs : List AV) (k : Nat) (x : AV), es[i]? = some cs → cs[k]? = some x → ∃ v, olds[i * j.size + k]? = some v ∧ Rel H noLay x v ∧ x.cell1 = true) := by
        rcases hvx.lst_inv with ⟨rfl, ad, cap, rfl, h1, h2, h3, h4⟩ | ⟨hne, b0, off, cap, sz0, c, vals, rfl, hb0, hsz', hv, hr, hc1, hex, hcap, hmax⟩
        · have := h1 rfl
          subst this
          refine ⟨ad, [], rfl, ?_, by simp, fun i cs k x h1 => by simp at h1⟩
          cases ad <;> simp [Builtin.firstCells, loadCells, loadCellsFrom]
        · have hcl := hex rfl
          subst hcl
          obtain ⟨TT, fr, hbw⟩ := hs.heap.know b0 c hb0
          have hss : sz0 = j.size := by
            cases es with
            | nil => exact absurd rfl hne
            | cons cs es => rw [← hsz' 0 cs (by simp), hu cs (by simp)]
          subst hss
          have hget : ∀ k, k < es.length * j.size → ∃ v, c[off + k]? = some v := fun k hk => by
            have hi : k / j.size < es.length := Nat.div_lt_of_lt_mul (by rw [Nat.mul_comm]; exact hk)
            have hm : k % j.size < j.size := Nat.mod_lt _ hp
            have hjj : k / j.size * j.size + k % j.size = k := by rw [Nat.mul_comm]; exact Nat.div_add_mod k j.size
            have h1 : es[k / j.size]? = some es[k / j.size] := List.getElem?_eq_getElem hi
            have h2 : (es[k / j.size])[k % j.size]? = some ((es[k / j.size])[k % j.size]'(by rw [hsz' _ _ h1]; exact hm)) := List.getElem?_eq_getElem _
            have := hv _ _ _ _ h1 h2
            rw [Nat.add_assoc, hjj] at this
            exact ⟨_, this⟩
          have hfit : off + es.length * j.size ≤ c.size := by
            rcases Nat.eq_zero_or_pos (es.length * j.size) with h0 | h0
            · have := List.length_pos_iff.2 hne
              have := Nat.mul_pos this hp
              omega
            · obtain ⟨v, hv⟩ := hget (es.length * j.size - 1) (by omega)
              have := (Array.getElem?_eq_some_iff.1 hv).1
              omega
          have hg : ∀ k, k < es.length * j.size → ((c.toList.drop off).take (es.length * j.size))[k]? = c[off + k]? := fun k hk => by
            rw [List.getElem?_take_of_lt hk, List.getElem?_drop, Array.getElem?_toList]
          have hl : ((c.toList.drop off).take (es.length * j.size)).length = es.length * j.size := by simp; omega
          refine ⟨_, (c.toList.drop off).take (es.length * j.size), rfl, ?_, hl, fun i cs k x h1 h2 => ?_⟩
          · rw [f4]
            refine run_firstCells_some (P := P) w.drew j.size es.length ⟨b0, off, none⟩ es.length es.length _ hl (fun k v hk => ?_)
            have hkl : k < es.length * j.size := by
              have := (List.getElem?_eq_some_iff.1 hk).1
              omega
            rw [hg k hkl] at hk
            rw [add_mk, World.cell?_drew, cell_row hbw]
            exact hk
          · have hi : i < es.length := (List.getElem?_eq_some_iff.1 h1).1
            have hkk : k < j.size := by rw [← hsz' i cs h1]; exact (List.getElem?_eq_some_iff.1 h2).1
            have h3 := hv i cs k x h1 h2
            exact ⟨_, by rw [hg _ (mul_add_lt_mul hi hkk), ← Nat.add_assoc]; exact h3, hr i cs k x h1 h2, hc1 i cs k x h1 h2⟩
      have hfit : Builtin.nextslicecap (es.length + es2.length) es.length * infou.bytes ≤ 281474976710656 := growslice_fits (by omega) (by rw [f5]; exact hby)
      have hrun := run_append_grow_src (P := P) w t t' o.type u infou z e2 f1 hz1 base es.length es.length olds hold vb es2.length news hsrcw (by omega) h63 hfit
      have hge := grownCap_ge w (es.length + es2.length) es.length u
      have hcm : grownCap w (es.length + es2.length) es.length u ≤ maxLen := grownCap_le_maxLen w _ es.length u hml
      generalize hcc : grownCap w (es.length + es2.length) es.length u = nc at *
      generalize hC : (olds ++ news).toArray ++ Builtin.zeroCells z.cells (nc - (es.length + es2.length)) = C at *
      have hCs : C.size = nc * j.size := by
        rw [← hC, Array.size_append, size_zeroCells, hzl]
        simp only [List.size_toArray, List.length_append, hol, hnl, ← Nat.add_mul]
        congr 1; omega
      have hCg : ∀ k, k < olds.length + news.length → C[k]? = (olds ++ news)[k]? := fun k hk => by
        rw [← hC, Array.getElem?_append_left (by simp; omega)]
        simp
      have hnewsp : ∀ (i : Nat) (cs : List AV) (k : Nat) (y : AV), es2[i]? = some cs → cs[k]? = some y → ∃ v, news[i * j.size + k]? = some v ∧ Rel H noLay y v ∧ y.cell1 = true := fun i cs k y h1 h2 => by
        obtain ⟨v, k1, k2, k3⟩ := hnews i cs k y h1 h2
        exact ⟨v, k1, pure1_rel (List.all_eq_true.1 (hpure cs (List.mem_of_getElem? h1)) y (List.mem_of_getElem? h2)) k2, k3⟩
      refine ⟨_, C, u, w.drew, rfl, rfl, rfl, ?_, rowCells_append hol hnl hu2 (fun i cs h => hu cs (List.mem_of_getElem? h)) holdr hnewsp hCg, hexec _ _ (hv ▸ hrun), ?_⟩
      · rw [List.length_append, hCs]; exact Nat.mul_le_mul_right _ hge
      · have := Rel.refL (H := H) (lput ι b ⟨w.heap.size, j.size, (es ++ es2).length, C.size⟩) b (es ++ es2).length 0 (es ++ es2).length nc _ (lput_same _ _ _) rfl (by omega) (by rw [List.length_append]; exact hge) (by simp [hCs]) hcm
        simpa using this
end
theorem Ghost.trans {s s' s'' : AState} (g1 : Ghost s s') (g2 : Ghost s' s'') : Ghost s s'' := fun H ι a w hs => by
  obtain ⟨H1, ι1, h1, s1⟩ := g1 H ι a w hs
  obtain ⟨H2, ι2, h2, s2⟩ := g2 H1 ι1 a w h1
  exact ⟨H2, ι2, h2, Step.trans hs.heap s1 h1.heap s2⟩
theorem Ghost.weakSlot {n : Nat} {e : AEnv} {h : AHeap} (t : Nat) {x y : AV} (ht : e t = some x) (hxy : ∀ H ι v, Rel H ι x v → Rel H ι y v) : Ghost ⟨n, e, h⟩ ⟨n, eput e t y, h⟩ := fun H ι a w hs =>
  ⟨H, ι, ⟨hs.n, hs.d, fun u z hz => by
    by_cases hu : u = t
    · subst hu
      simp only [eput_same, Option.some.injEq] at hz
      subst hz
      obtain ⟨v, h1, h2⟩ := hs.env u _ ht
      exact ⟨v, h1, hxy _ _ _ h2⟩
    · simp only [eput_ne _ _ hu] at hz
      exact hs.env u z hz, hs.heap⟩, Step.refl _ _ _ _⟩
theorem nil_empty {H : Know} {ι : Lay} {v : Value} (h : Rel H ι .nil v) : Rel H ι (.lst false []) v := by
  rw [h.nil_inv]; exact .lst0 _ _ _ _ (fun h => by cases h) (Nat.zero_le _) (fun _ => rfl) trivial
theorem Ghost.weakRow {n : Nat} {e : AEnv} {h : AHeap} (b : Nat) {sz : Nat} {es es' : List (List AV)} (hb : h b = some (.row true sz es)) (hl : es'.length = es.length)
    (hw : ∀ (i : Nat) (cs cs' : List AV), es[i]? = some cs → es'[i]? = some cs' → cs'.length = cs.length ∧ ∀ (j : Nat) (x y : AV), cs[j]? = some x → cs'[j]? = some y → y.cell1 = true ∧ ∀ H v, Rel H noLay x v → Rel H noLay y v) : Ghost ⟨n, e, h⟩ ⟨n, e, hput h b (.row true sz es')⟩ := fun H ι a w hs => by
  obtain ⟨r, hr, ⟨r1, r2, r3, r4, r5, r6⟩, r7⟩ := hs.heap.obj b _ hb rfl
  have hlput : lput ι b r = ι := by
    funext c
    by_cases hc : c = b
    · subst hc; rw [lput_same, hr]
    · rw [lput_ne _ _ hc]
  have old : ∀ (i : Nat) (cs' : List AV), es'[i]? = some cs' → ∃ cs, es[i]? = some cs := fun i cs' h => by
    have := (List.getElem?_eq_some_iff.1 h).1
    exact ⟨_, List.getElem?_eq_getElem (by omega)⟩
  have hlen : ∀ (i : Nat) (cs' : List AV), es'[i]? = some cs' → cs'.length = sz := fun i cs' h => by
    obtain ⟨cs, hc⟩ := old i cs' h
    rw [(hw i cs cs' hc h).1, r5 i cs hc]
  have := hs.heap.upd (w' := w) (o0 := .row true sz es) (o' := .row true sz es') (r' := r) hb rfl (.inr ⟨r, hr, rfl, .inl rfl⟩) (fun hs' => .inr ⟨r, hr, rfl, hs', rfl⟩) (fun _ _ _ => rfl) (Nat.le_refl _) rfl rfl
    ⟨r1, r2, by rw [hl]; exact r3, by rw [hl]; exact r4, hlen, fun hsol => by
      obtain ⟨c, TT, w1, w2, w3⟩ := r6 hsol
      exact ⟨c, TT, w1, w2, hlen, fun k ds q z hk hq => by
        obtain ⟨cs, hc⟩ := old k ds hk
        obtain ⟨e1, e2⟩ := hw k cs ds hc hk
        have hq' : q < cs.length := by rw [← e1]; exact (List.getElem?_eq_some_iff.1 hq).1
        have hx : cs[q]? = some cs[q] := List.getElem?_eq_getElem hq'
        obtain ⟨v, f1, f2, f3⟩ := w3.2 k cs q _ hc hx
        obtain ⟨g1, g2⟩ := e2 q _ z hx hq
        exact ⟨v, f1, g2 _ _ f2, g1⟩⟩⟩
  rw [hlput] at this
  exact ⟨H, ι, ⟨hs.n, hs.d, hs.env, this.1⟩, this.2⟩
theorem HSub.from_rm {h : AHeap} {k b : Nat} (hh : HSub (hFrom k) h) (hb : b < k) : HSub (hFrom k) (hrm h b) := fun c x hx => by
  have hne : c ≠ b := fun e => by
    subst e
    have h1 : Nat.blt c k = true := by rw [Nat.blt_eq]; exact hb
    simp only [hFrom, h1, cond_true] at hx
    cases hx
  rw [hrm_ne _ hne]; exact hh c x hx
def arrAV (K : IntKind) (l : List Int) : List AV := l.map fun n => .int K n
def arrV (K : IntKind) (l : List Int) : Array Value := (l.map fun n => Value.int K n).toArray
theorem ints_vals {H : Know} {ι : Lay} {K : IntKind} {l : List Int} {us : Array Value} (hl : (arrAV K l).length = us.size) (h : ∀ (j : Nat) (x : AV) (v : Value), (arrAV K l)[j]? = some x → us[j]? = some v → Rel H ι x v) : us = arrV K l := by
  apply Array.ext
  · simpa [arrAV, arrV] using hl.symm
  · intro j h1 h2
    have hj : j < l.length := by simpa [arrV] using h2
    have := h j (.int K l[j]) us[j] (by simp [arrAV, hj]) (Array.getElem?_eq_getElem h1)
    rw [this.int_inv]
    simp [arrV]
section
variable {P : Program}
theorem run_partInt {w : World} {t : TypeId} {K : IntKind} {l : List Int} (hu : P.underlying t = some (.int K)) {j : Nat} {n : Int} (h : l[j]? = some n) : (part t (arrV K l) j).run P w = .ok (.int K n) w :=
  run_part1 hu rfl (by simp [arrV, h])
theorem run_eqInts {w : World} {t : TypeId} {K : IntKind} (hu : P.underlying t = some (.int K)) (d : Nat) (l1 l2 : List Int) : ∀ (m k : Nat), l1.length = k + m → l2.length = k + m →
    (Op.eqItems (d + 1) t 1 (arrV K l1) (arrV K l2) (List.range' k m)).run P w = .ok (decide (l1.drop k = l2.drop k)) w
  | 0, k, h1, h2 => by
    rw [List.drop_of_length_le (by omega), List.drop_of_length_le (by omega)]
    simp [Op.eqItems]
  | m + 1, k, h1, h2 => by
    have g1 : k < l1.length := by omega
    have g2 : k < l2.length := by omega
    have ih := run_eqInts (w := w) hu d l1 l2 m (k + 1) (by omega) (by omega)
    rw [List.range'_succ]
    simp only [Op.eqItems, Nat.mul_one, Sem.run_bind, run_partInt hu (List.getElem?_eq_getElem g1), run_partInt hu (List.getElem?_eq_getElem g2), Result.andThen_ok, run_equalIn_int w d t _ _ _ _ hu]
    have hd : (l1.drop k = l2.drop k) ↔ (l1[k] = l2[k] ∧ l1.drop (k + 1) = l2.drop (k + 1)) := by
      rw [List.drop_eq_getElem_cons g1, List.drop_eq_getElem_cons g2, List.cons.injEq]
    by_cases he : l1[k] = l2[k]
    · simp only [he, if_true, Result.andThen_ok]
      simp only [hd, he, true_and]
      simp [ih]
    · simp [hd, he]
theorem run_equalInts {w : World} {t e : TypeId} {n : Nat} {K : IntKind} (hu : P.underlying t = some (.array n e)) (he : P.underlying e = some (.int K)) (hc : P.cellsOf e = 1) (d : Nat) {l1 l2 : List Int} (h1 : l1.length = n) (h2 : l2.length = n) :
    (Op.equalIn (d + 2) t (.agg (arrV K l1)) (.agg (arrV K l2))).run P w = .ok (decide (l1 = l2)) w := by
  obtain ⟨i, hi⟩ := info_of_underlying he
  rw [run_equalIn_array w (d + 1) _ _ hu hi, hc, List.range_eq_range']
  have := run_eqInts (w := w) he d l1 l2 n 0 (by omega) (by omega)
  simpa using this
theorem run_checkInt' {w : World} {kt : TypeId} {K : IntKind} (hk : P.underlying kt = some (.int K)) (em : Bool) (n : Nat) (z : Int) : (Instr.checkKey em (n + 1) kt (.int K z)).run P w = .ok () w := by
  rw [Instr.checkKey]
  simp [run_underlying' hk]
theorem run_checkInts {w : World} {t e : TypeId} {n : Nat} {K : IntKind} (hu : P.underlying t = some (.array n e)) (he : P.underlying e = some (.int K)) (hc : P.cellsOf e = 1) (em : Bool) {l : List Int} (h : l.length = n) : (Instr.checkKey em 10000 t (.agg (arrV K l))).run P w = .ok () w := by
  obtain ⟨i, hi⟩ := info_of_underlying he
  rw [Instr.checkKey]
  simp only [Sem.run_bind, run_underlying' hu, Result.andThen_ok]
  simp only [Std.Legacy.Range.forIn_eq_forIn_range', Std.Legacy.Range.size, Nat.sub_zero, Nat.add_one_sub_one, Nat.div_one]
  have key : ∀ (m k : Nat), l.length = k + m → ((forIn (List.range' k m) PUnit.unit fun i r => do let a ← sizeOf e; let b ← part e (arrV K l) (i * a); Instr.checkKey em 9999 e b; pure (ForInStep.yield PUnit.unit)) : Sem PUnit).run P w = .ok PUnit.unit w := by
    intro m
    induction m with
    | zero => intro k hk; simp
    | succ m ih =>
      intro k hk
      have hkl : k < l.length := by omega
      have ih' := ih (k + 1) (by omega)
      rw [List.range'_succ]
      simp only [List.forIn_cons, Sem.run_bind, run_sizeOf w hi, hc, Nat.mul_one, Result.andThen_ok, run_partInt he (List.getElem?_eq_getElem hkl), run_checkInt' he em 9998]
      simpa using ih'
  have h0 := key n 0 (by omega)
  simp at h0 ⊢
  rw [h0]
  rfl
end
abbrev AMap := List (List Int × AV)
def kvsA (K : IntKind) (m : AMap) : List (AV × AV) := m.map fun p => (.agg (arrAV K p.1), p.2)
def alook (z : List Int) : AMap → Option (Nat × AV)
  | [] => none
  | (k, v) :: r => bif z == k then some (0, v) else (alook z r).map fun p => (p.1 + 1, p.2)
def aget (z : List Int) (m : AMap) : Option AV := (alook z m).map (·.2)
def aset (z : List Int) (v : AV) : AMap → AMap
  | [] => [(z, v)]
  | (k, u) :: r => bif z == k then (k, v) :: r else (k, u) :: aset z v r
inductive EntRelA (H : Know) (K : IntKind) : AMap → List MapEntry → Prop
  | nil : EntRelA H K [] []
  | cons (z : List Int) (v : AV) (m : AMap) (e : MapEntry) (es : List MapEntry) (hk : e.key = .agg (arrV K z)) (hv : Rel H noLay v e.val) (h : EntRelA H K m es) : EntRelA H K ((z, v) :: m) (e :: es)
theorem intsRel (H : Know) (K : IntKind) (z : List Int) : Rel H noLay (.agg (arrAV K z)) (.agg (arrV K z)) :=
  .agg _ _ _ (by simp [arrAV, arrV]) fun j x u h1 h2 => by
    simp only [arrAV, List.getElem?_map, Option.map_eq_some_iff] at h1
    obtain ⟨n, hn, rfl⟩ := h1
    have : u = .int K n := by simpa [arrV, hn] using h2.symm
    subst this
    exact .int _ _ _
theorem Rel.ints {H : Know} {ι : Lay} {K : IntKind} {z : List Int} {v : Value} (h : Rel H ι (.agg (arrAV K z)) v) : v = .agg (arrV K z) := by
  obtain ⟨us, rfl, h1, h2⟩ := h.agg_inv
  rw [ints_vals h1 h2]
theorem entRelA_of {H : Know} {K : IntKind} : ∀ {m : AMap} {es : List MapEntry}, (kvsA K m).length = es.length → (∀ (j : Nat) (k v : AV), (kvsA K m)[j]? = some (k, v) → ∃ e, es[j]? = some e ∧ Rel H noLay k e.key ∧ Rel H noLay v e.val) → EntRelA H K m es
  | [], es, h1, _ => by
    have : es = [] := List.length_eq_zero_iff.1 (by simpa [kvsA] using h1.symm)
    subst this; exact .nil
  | (z, v) :: m, [], h1, _ => by simp [kvsA] at h1
  | (z, v) :: m, e :: es, h1, h2 => by
    obtain ⟨e', g1, g2, g3⟩ := h2 0 (.agg (arrAV K z)) v rfl
    simp at g1; subst g1
    exact .cons z v m e es g2.ints g3 (entRelA_of (by simpa [kvsA] using h1) fun j k u hj => by
      obtain ⟨e', k1, k2⟩ := h2 (j + 1) k u (by simpa [kvsA] using hj)
      exact ⟨e', by simpa using k1, k2⟩)
theorem EntRelA.out {H : Know} {K : IntKind} {m : AMap} {es : List MapEntry} (h : EntRelA H K m es) : (kvsA K m).length = es.length ∧ ∀ (j : Nat) (k v : AV), (kvsA K m)[j]? = some (k, v) → ∃ e, es[j]? = some e ∧ Rel H noLay k e.key ∧ Rel H noLay v e.val := by
  induction h with
  | nil => exact ⟨rfl, fun j k v h => by simp [kvsA] at h⟩
  | cons z v m e es hk hv h ih =>
    refine ⟨by simpa [kvsA] using ih.1, fun j k u hj => ?_⟩
    cases j with
    | zero =>
      simp [kvsA] at hj
      obtain ⟨rfl, rfl⟩ := hj
      exact ⟨e, rfl, by rw [hk]; exact intsRel _ _ _, hv⟩
    | succ j =>
      obtain ⟨e', k1, k2⟩ := ih.2 j k u (by simpa [kvsA] using hj)
      exact ⟨e', by simpa using k1, k2⟩
theorem mapCellsA_iff {H : Know} {K : IntKind} {m : AMap} {es : Array MapEntry} : mapCells H (kvsA K m) es ↔ EntRelA H K m es.toList := by
  constructor
  · rintro ⟨h1, h2⟩
    exact entRelA_of (by simpa using h1) fun j k v hj => by
      obtain ⟨e, g1, g2⟩ := h2 j k v hj
      exact ⟨e, by simpa using g1, g2⟩
  · intro h
    obtain ⟨h1, h2⟩ := h.out
    exact ⟨by simpa using h1, fun j k v hj => by
      obtain ⟨e, g1, g2⟩ := h2 j k v hj
      exact ⟨e, by simpa using g1, g2⟩⟩
theorem EntRelA.find {H : Know} {K : IntKind} {m : AMap} {es : List MapEntry} {P : Program} {w : World} {t e0 : TypeId} {n : Nat} (hu : P.underlying t = some (.array n e0)) (he : P.underlying e0 = some (.int K)) (hc : P.cellsOf e0 = 1)
    (h : EntRelA H K m es) {z : List Int} (hz : z.length = n) (hm : ∀ p ∈ m, p.1.length = n) : ∀ i, ∃ r, (Instr.findAsking t (.agg (arrV K z)) es i).run P w = .ok r w ∧
    ((alook z m = none ∧ r = none) ∨ ∃ j v e, alook z m = some (j, v) ∧ r = some (i + j, e.val) ∧ es[j]? = some e ∧ e.key = .agg (arrV K z) ∧ Rel H noLay v e.val) := by
  induction h with
  | nil => exact fun i => ⟨none, by simp [Instr.findAsking], .inl ⟨rfl, rfl⟩⟩
  | cons k v m e es hk hv h ih =>
    intro i
    obtain ⟨r, r1, r2⟩ := ih (fun p hp => hm p (by simp [hp])) (i + 1)
    have heq : (Op.equal t (.agg (arrV K z)) e.key).run P w = .ok (decide (z = k)) w := by
      rw [hk]
      exact run_equalInts hu he hc 9998 hz (hm (k, v) (by simp))
    by_cases hzk : z = k
    · subst hzk
      refine ⟨some (i, e.val), by simp [Instr.findAsking, heq], .inr ⟨0, v, e, by simp [alook], rfl, rfl, hk, hv⟩⟩
    · have hb : (z == k) = false := by simpa using hzk
      refine ⟨r, by simp [Instr.findAsking, heq, hzk, r1], ?_⟩
      rcases r2 with ⟨g1, g2⟩ | ⟨j, u, e', g1, g2, g3, g4⟩
      · exact .inl ⟨by simp [alook, hb, g1], g2⟩
      · exact .inr ⟨j + 1, u, e', by simp [alook, hb, g1], by rw [g2]; congr 2; omega, by simpa using g3, g4⟩
theorem EntRelA.set_new {H : Know} {K : IntKind} {m : AMap} {es : List MapEntry} (h : EntRelA H K m es) {z : List Int} {v : AV} {val : Value} (hv : Rel H noLay v val) (clk : Nat) (hn : alook z m = none) : EntRelA H K (aset z v m) (es ++ [{ key := .agg (arrV K z), val := val, born := clk }]) := by
  induction h with
  | nil => exact .cons z v [] _ [] rfl hv .nil
  | cons k u m e es hk hu h ih =>
    unfold alook at hn
    cases hz : z == k with
    | true => rw [hz] at hn; cases hn
    | false =>
      rw [hz] at hn
      have : alook z m = none := by simpa using hn
      unfold aset
      rw [hz]
      exact .cons k u _ e _ hk hu (ih this)
theorem EntRelA.set_old {H : Know} {K : IntKind} {m : AMap} {es : List MapEntry} (h : EntRelA H K m es) {z : List Int} {v : AV} {val : Value} (hv : Rel H noLay v val) : ∀ {j : Nat} {v0 : AV}, alook z m = some (j, v0) → EntRelA H K (aset z v m) (es.modify j fun e => { e with key := .agg (arrV K z), val := val }) := by
  induction h with
  | nil => intro j v0 hn; cases hn
  | cons k u m e es hk hu h ih =>
    intro j v0 hn
    unfold alook at hn
    cases hz : z == k with
    | true =>
      rw [hz] at hn
      simp at hn
      obtain ⟨rfl, rfl⟩ := hn
      unfold aset
      rw [hz]
      have : z = k := by simpa using hz
      subst this
      exact .cons z v m _ es rfl hv h
    | false =>
      rw [hz] at hn
      simp only [cond_false, Option.map_eq_some_iff] at hn
      obtain ⟨⟨j', v'⟩, g1, g2⟩ := hn
      simp at g2
      obtain ⟨rfl, rfl⟩ := g2
      unfold aset
      rw [hz]
      exact .cons k u _ e _ hk hu (ih g1)
theorem run_findInts {P : Program} {w : World} {t e0 : TypeId} {n : Nat} (hu : P.underlying t = some (.array n e0)) (x : Value) (es : List MapEntry) : (Instr.findKey t x es).run P w = (Instr.findAsking t x es).run P w :=
  run_findKey_eq w (by rw [hu]) x es
theorem sameBitsInts (K : IntKind) (z : List Int) : Instr.sameBits 10000 (.agg (arrV K z)) (.agg (arrV K z)) = true := by
  rw [Instr.sameBits]
  simp only [beq_self_eq_true, Bool.true_and, List.all_eq_true]
  rintro ⟨a, b⟩ hab
  have h1 : ∀ (l : List Value) (a b : Value), (a, b) ∈ l.zip l → a = b ∧ a ∈ l := by
    intro l
    induction l with
    | nil => intro a b h; simp at h
    | cons x l ih =>
      intro a b h
      simp only [List.zip_cons_cons, List.mem_cons, Prod.mk.injEq] at h
      rcases h with ⟨rfl, rfl⟩ | h
      · exact ⟨rfl, by simp⟩
      · obtain ⟨g1, g2⟩ := ih a b h
        exact ⟨g1, by simp [g2]⟩
  obtain ⟨rfl, hm⟩ := h1 _ a b hab
  simp only [arrV, List.mem_map] at hm
  obtain ⟨n, _, rfl⟩ := hm
  rw [Instr.sameBits]
  simp
theorem run_staysInts {P : Program} {w : World} {K : IntKind} (z : List Int) : (Instr.keyThatStays (.agg (arrV K z)) (.agg (arrV K z))).run P w = .ok (.agg (arrV K z)) w := by
  unfold Instr.keyThatStays
  rw [if_pos (sameBitsInts K z)]
  rfl
section
variable {P : Program} {T : Nat → Option TyI} {o : Oper} {e : AEnv} {h : AHeap}
theorem q_eqInts (hT : TOk P T) {t t' : TypeId} {x y : Operand} {K : IntKind} {l1 l2 : List Int} {i j : TyI} {n e0 : Nat} (neg : Bool) (ho : o.op = .binOp (bif neg then .neq else .eql) t x y t') (hx : look e x = some (.agg (arrAV K l1))) (hy : look e y = some (.agg (arrAV K l2))) (hp : P.eqGuardType P.depth t = false) (hi : T t = some i) (hk : i.k = .array n e0)
    (hj : T e0 = some j) (hjk : j.k = .int K) (h1 : l1.length = n) (h2 : l2.length = n) (hc : P.cellsOf e0 = 1) : QLoc P o e h [] (.bool (bif neg then !(decide (l1 = l2)) else decide (l1 = l2))) := by
  intro H ι a w s hs g1 g2
  have hx' : look s.env x = some (.agg (arrAV K l1)) := by rw [g1 x (by rw [ho]; simp [Op.operands]), hx]
  have hy' : look s.env y = some (.agg (arrAV K l2)) := by rw [g1 y (by rw [ho]; simp [Op.operands]), hy]
  have hvx := (look_rel hs hx').ints
  have hvy := (look_rel hs hy').ints
  obtain ⟨info, d, e1, e2, e3, e4, e5, e6⟩ := tyOf_spec (hT _ _ hi)
  obtain ⟨info', d', e1', e2', e3', e4', e5', e6'⟩ := tyOf_spec (hT _ _ hj)
  have hd := tk_array (P := P) (d := d) (e3 ▸ hk)
  subst hd
  have hd' := tk_int (P := P) (d := d') (e3' ▸ hjk)
  subst hd'
  have hrun : (Op.equalIn 10000 t (.agg (arrV K l1)) (.agg (arrV K l2))).run P w = .ok (decide (l1 = l2)) w := run_equalInts e2 e2' hc 9998 h1 h2
  refine ⟨_, .bool _ _, ?_⟩
  cases neg with
  | true =>
    simp only [cond_true] at ho ⊢
    simp only [execOp, ho, hvx, hvy, Sem.run_bind, run_eqGuard_agg w .neq t x y _ _ hp, Result.andThen_ok, run_neq_struct, hrun, Sem.run_pure]
  | false =>
    simp only [cond_false] at ho ⊢
    simp only [execOp, ho, hvx, hvy, Sem.run_bind, run_eqGuard_agg w .eql t x y _ _ hp, Result.andThen_ok, run_eql_struct, hrun, Sem.run_pure]
theorem q_lookupOkA (hT : TOk P T) {t kt et : TypeId} {x y : Operand} {b : Nat} {K : IntKind} {z : List Int} {m : AMap} {i j j0 : TyI} {n e0 : Nat} {zv : Value} {z0 : AV} (ho : o.op = .lookup t x y true) (hx : look e x = some (.map b)) (hy : look e y = some (.agg (arrAV K z))) (hb : h b = some (.map (kvsA K m)))
    (hi : T t = some i) (hk : i.k = .map kt et) (hj : T kt = some j) (hjk : j.k = .array n e0) (hj0 : T e0 = some j0) (hjk0 : j0.k = .int K) (hc : P.cellsOf e0 = 1) (hzl : z.length = n) (hm : ∀ p ∈ m, p.1.length = n) (hz : (P.info? et).bind (·.zero) = some zv) (hz0 : cellAV zv = some z0) : QLoc P o e h [b] (.tup [(aget z m).getD z0, .bool (aget z m).isSome]) := by
  intro H ι a w s hs h1 h2
  have hx' : look s.env x = some (.map b) := by rw [h1 x (by rw [ho]; simp [Op.operands]), hx]
  have hy' : look s.env y = some (.agg (arrAV K z)) := by rw [h1 y (by rw [ho]; simp [Op.operands]), hy]
  have hb' : s.h b = some (.map (kvsA K m)) := by rw [h2 b (by simp), hb]
  obtain ⟨info, d, e1, e2, e3, e4, e5, e6⟩ := tyOf_spec (hT _ _ hi)
  obtain ⟨info', d', e1', e2', e3', e4', e5', e6'⟩ := tyOf_spec (hT _ _ hj)
  obtain ⟨info0, d0, e10, e20, e30, e40, e50, e60⟩ := tyOf_spec (hT _ _ hj0)
  have hd := tk_map (P := P) (d := d) (e3 ▸ hk)
  subst hd
  have hd' := tk_array (P := P) (d := d') (e3' ▸ hjk)
  subst hd'
  have hd0 := tk_int (P := P) (d := d0) (e30 ▸ hjk0)
  subst hd0
  have hvy := (look_rel hs hy').ints
  obtain ⟨r, hr, hr0, hvx⟩ := (look_rel hs hx').map_inv
  obtain ⟨r', hl, ⟨r1, r2, es, clk, r3, r4⟩, r5⟩ := hs.heap.obj b _ hb' rfl
  rw [hr] at hl; cases hl
  obtain ⟨rr, f1, f2⟩ := (mapCellsA_iff.1 r4).find (w := w) e2' e20 hc hzl hm 0
  have hzero : (zeroValue et).run P w = .ok zv w := by
    cases ei : P.info? et with
    | none => rw [ei] at hz; cases hz
    | some inf =>
      rw [ei] at hz
      simp only [Option.bind_some] at hz
      simp [zeroValue, typeInfo, ei, hz]
  rcases f2 with ⟨g1, rfl⟩ | ⟨p, v, en, g1, rfl, g3, g4, g5⟩
  · refine ⟨.tuple #[zv, .bool false], ?_, ?_⟩
    · simp only [aget, g1, Option.map_none, Option.getD_none, Option.isSome_none]
      refine .tup _ _ _ rfl fun q x u hq hu => ?_
      match q, hq, hu with
      | 0, hq, hu => simp at hq hu; subst hq; subst hu; exact cellAV_rel hz0
      | 1, hq, hu => simp at hq hu; subst hq; subst hu; exact .bool _ _
      | q + 2, hq, hu => simp at hq
    · simp [execOp, ho, Instr.lookup, hvx, hvy, run_underlying' e2, MapKept.run_getObj_map r3, run_checkInts e2' e20 hc _ hzl, run_findInts e2', f1, hzero]
  · refine ⟨.tuple #[en.val, .bool true], ?_, ?_⟩
    · simp only [aget, g1, Option.map_some, Option.getD_some, Option.isSome_some]
      refine .tup _ _ _ rfl fun q x u hq hu => ?_
      match q, hq, hu with
      | 0, hq, hu => simp at hq hu; subst hq; subst hu; exact g5.mono (KLe.refl _) (LLe.none _)
      | 1, hq, hu => simp at hq hu; subst hq; subst hu; exact .bool _ _
      | q + 2, hq, hu => simp at hq
    · simp [execOp, ho, Instr.lookup, hvx, hvy, run_underlying' e2, MapKept.run_getObj_map r3, run_checkInts e2' e20 hc _ hzl, run_findInts e2', f1]
theorem o_makeMapA {t : TypeId} (K : IntKind) (b : Nat) (ho : o.op = .makeMap t none) (hb : h b = some .free) : OLoc P o e h [b] [(b, .map (kvsA K []))] (some (.map b)) := o_makeMap K b ho hb
theorem map_writeA {H : Know} {ι : Lay} {s : AState} {a : Act} {w : World} (hs : Sim H ι s a w) {b : Nat} {K : IntKind} {m m' : AMap} {r : Ent} {es es' : Array MapEntry} {clk clk' : Nat} (hb : s.h b = some (.map (kvsA K m))) (hr : ι b = some r) (r1 : r.sz = 0) (r2 : r.solid)
    (r3 : w.heap[r.rb]? = some (.map es clk)) (hm : EntRelA H K m' es'.toList) :
    HeapRel H ι (hput s.h b (.map (kvsA K m'))) { w with heap := w.heap.setIfInBounds r.rb (.map es' clk') } ∧ Step H ι s.h w H ι (hput s.h b (.map (kvsA K m'))) { w with heap := w.heap.setIfInBounds r.rb (.map es' clk') } := by
  have hlt : r.rb < w.heap.size := (Array.getElem?_eq_some_iff.1 r3).1
  have := hs.heap.upd (o' := .map (kvsA K m')) (r' := r) (w' := { w with heap := w.heap.setIfInBounds r.rb (.map es' clk') }) hb rfl (.inr ⟨r, hr, rfl, .inl rfl⟩) (fun _ => .inr ⟨r, hr, rfl, r2, rfl⟩)
    (fun rb _ hne => by
      have : rb ≠ r.rb := hne r hr rfl r2
      simp [Array.getElem?_setIfInBounds_ne (Ne.symm this)]) (by simp) rfl rfl
    ⟨r1, r2, es', clk', by simp [hlt], mapCellsA_iff.2 hm⟩
  rwa [show lput ι b r = ι from by
    funext c
    by_cases hc : c = b
    · subst hc; rw [lput_same, hr]
    · rw [lput_ne _ _ hc]] at this
theorem o_mapUpdateA (hT : TOk P T) {t kt et : TypeId} {x y u : Operand} {b : Nat} {K : IntKind} {z : List Int} {m : AMap} {q : AV} {i j j0 : TyI} {n e0 : Nat} (ho : o.op = .mapUpdate t x y u) (hd : o.dst = none) (hx : look e x = some (.map b)) (hy : look e y = some (.agg (arrAV K z))) (hu : look e u = some q) (hp : q.isPure = true)
    (hb : h b = some (.map (kvsA K m))) (hi : T t = some i) (hk : i.k = .map kt et) (hj : T kt = some j) (hjk : j.k = .array n e0) (hj0 : T e0 = some j0) (hjk0 : j0.k = .int K) (hc : P.cellsOf e0 = 1) (hzl : z.length = n) (hm : ∀ p ∈ m, p.1.length = n) : OLoc P o e h [b] [(b, .map (kvsA K (aset z q m)))] none := by
  intro H ι a w s Q hs h1 h2
  have hx' : look s.env x = some (.map b) := by rw [h1 x (by rw [ho]; simp [Op.operands]), hx]
  have hy' : look s.env y = some (.agg (arrAV K z)) := by rw [h1 y (by rw [ho]; simp [Op.operands]), hy]
  have hu' : look s.env u = some q := by rw [h1 u (by rw [ho]; simp [Op.operands]), hu]
  have hb' : s.h b = some (.map (kvsA K m)) := by rw [h2 b (by simp), hb]
  obtain ⟨info, d, e1, e2, e3, e4, e5, e6⟩ := tyOf_spec (hT _ _ hi)
  obtain ⟨info', d', e1', e2', e3', e4', e5', e6'⟩ := tyOf_spec (hT _ _ hj)
  obtain ⟨info0, d0, e10, e20, e30, e40, e50, e60⟩ := tyOf_spec (hT _ _ hj0)
  have hd1 := tk_map (P := P) (d := d) (e3 ▸ hk)
  subst hd1
  have hd' := tk_array (P := P) (d := d') (e3' ▸ hjk)
  subst hd'
  have hd0 := tk_int (P := P) (d := d0) (e30 ▸ hjk0)
  subst hd0
  have hvy := (look_rel hs hy').ints
  obtain ⟨r, hr, hr0, hvx⟩ := (look_rel hs hx').map_inv
  obtain ⟨r', hl, ⟨r1, r2, es, clk, r3, r4⟩, r5⟩ := hs.heap.obj b _ hb' rfl
  rw [hr] at hl; cases hl
  have hrv := pure_rel (ι' := noLay) hp (look_rel hs hu')
  have hE := mapCellsA_iff.1 r4
  obtain ⟨rr, f1, f2⟩ := hE.find (w := w) e2' e20 hc hzl hm 0
  unfold Oper.wp
  rcases f2 with ⟨g1, rfl⟩ | ⟨p, v, en, g1, rfl, g3, g4, g5⟩
  · have hrun : (execOp a.eval o).run P w = .ok .skip { w with heap := w.heap.setIfInBounds r.rb (.map (es.push { key := .agg (arrV K z), val := a.eval u, born := clk }) (clk + 1)) } := by
      simp [execOp, ho, Instr.mapUpdate, hvx, hvy, run_underlying' e2, MapKept.run_getObj_map r3, run_checkInts e2' e20 hc _ hzl, run_findInts e2', f1, MapKept.run_setObj_map _ r3]
    rw [hrun]
    obtain ⟨u1, u2⟩ := map_writeA hs (es' := es.push { key := .agg (arrV K z), val := a.eval u, born := clk }) (clk' := clk + 1) hb' hr r1 r2 r3 (m' := aset z q m) (by rw [Array.toList_push]; exact hE.set_new hrv clk g1)
    exact ⟨undef, H, ι, (by rw [hd]), (fun x ex => by cases ex), u1, u2⟩
  · have hrun : (execOp a.eval o).run P w = .ok .skip { w with heap := w.heap.setIfInBounds r.rb (.map (es.modify p fun e => { e with key := .agg (arrV K z), val := a.eval u }) clk) } := by
      have g3' : es[p]? = some en := by simpa using g3
      simp [execOp, ho, Instr.mapUpdate, hvx, hvy, run_underlying' e2, MapKept.run_getObj_map r3, run_checkInts e2' e20 hc _ hzl, run_findInts e2', f1, MapKept.run_setObj_map _ r3, g3', g4, run_staysInts]
    rw [hrun]
    obtain ⟨u1, u2⟩ := map_writeA hs (es' := es.modify p fun e => { e with key := .agg (arrV K z), val := a.eval u }) (clk' := clk) hb' hr r1 r2 r3 (m' := aset z q m) (by rw [Array.toList_modify]; exact hE.set_old hrv g1)
    exact ⟨undef, H, ι, (by rw [hd]), (fun x ex => by cases ex), u1, u2⟩
end
def slA (b : Nat) (es : List (List AV)) : AV := jAV es.isEmpty b es
def slO (sz : Nat) (es : List (List AV)) : AObj := jObj es.isEmpty sz es
def vaA (b : Nat) (es : List (List AV)) : AV := bif es.isEmpty then .lst false [] else .ref b es.length 0 es.length
def vaO (es : List (List AV)) : AObj := bif es.isEmpty then .free else .row true 1 es
theorem snoc_ne {α : Type} (l : List α) (x : α) : (l ++ [x]).isEmpty = false := by cases l <;> rfl
theorem isEmpty_ne {α : Type} {l : List α} {k : Nat} (h : k < l.length) : l.isEmpty = false := by cases l with | nil => simp at h | cons => rfl
theorem slA_at {b k : Nat} {es : List (List AV)} (h : k < es.length) : slA b es = .ref b es.length 0 es.length := by simp [slA, isEmpty_ne h, jAV]
theorem slO_at {sz k : Nat} {es : List (List AV)} (h : k < es.length) : slO sz es = .row true sz es := by simp [slO, isEmpty_ne h, jObj]
theorem vaA_at {b k : Nat} {es : List (List AV)} (h : k < es.length) : vaA b es = .ref b es.length 0 es.length := by simp [vaA, isEmpty_ne h]
theorem vaO_at {k : Nat} {es : List (List AV)} (h : k < es.length) : vaO es = .row true 1 es := by simp [vaO, isEmpty_ne h]
theorem vaA_len {b : Nat} {es es' : List (List AV)} (h : es'.length = es.length) : vaA b es' = vaA b es := by
  cases es with
  | nil =>
    have : es' = [] := List.eq_nil_of_length_eq_zero h
    rw [this]
  | cons x r =>
    cases es' with
    | nil => simp at h
    | cons y q => simp only [vaA, List.isEmpty_cons, cond_false, h]
theorem jAV_cells (f : Bool) (b : Nat) (es : List (List AV)) : (jAV f b es).cells = [jAV f b es] := by cases f <;> rfl
theorem slA_cells (b : Nat) (es : List (List AV)) : (slA b es).cells = [slA b es] := jAV_cells _ _ _
theorem slA_cell1 (b : Nat) (es : List (List AV)) : (slA b es).cell1 = true := by unfold slA jAV; cases es.isEmpty <;> rfl
theorem vaA_cells (b : Nat) (es : List (List AV)) : (vaA b es).cells = [vaA b es] := by unfold vaA; cases es.isEmpty <;> rfl
theorem vaA_cell1 (b : Nat) (es : List (List AV)) : (vaA b es).cell1 = true := by unfold vaA; cases es.isEmpty <;> rfl
theorem slA_avoid {k : Nat → Bool} {b : Nat} (es : List (List AV)) (h : k b = true) : (slA b es).avoid k = true := by unfold slA jAV; cases es.isEmpty <;> simp [AV.avoid, AV.flat, h]
theorem vaA_avoid {k : Nat → Bool} {b : Nat} (es : List (List AV)) (h : k b = true) : (vaA b es).avoid k = true := by unfold vaA; cases es.isEmpty <;> simp [AV.avoid, AV.flat, h]
theorem slO_avoid {k : Nat → Bool} (sz : Nat) (es : List (List AV)) : (slO sz es).avoid k = true := by unfold slO jObj; cases es.isEmpty <;> rfl
theorem vaO_avoid {k : Nat → Bool} (es : List (List AV)) : (vaO es).avoid k = true := by unfold vaO; cases es.isEmpty <;> rfl
section
variable {P : Program} {T : Nat → Option TyI} {o : Oper} {e : AEnv} {h : AHeap}
theorem q_lenJ (hT : TOk P T) {t : TypeId} {x : Operand} {b : Nat} {es : List (List AV)} {i : TyI} {u : Nat} (ho : o.op = .call { callee := .builtin .len, args := #[x], argTypes := #[t] }) (hx : look e x = some (slA b es)) (hi : T t = some i) (hk : i.k = .slice u) : QLoc P o e h [] (.int .i64 (es.length : Int)) := by
  unfold slA jAV at hx
  cases hf : es.isEmpty with
  | true => rw [hf] at hx; exact q_len hT ho hx hi (by rw [hk]; rfl) rfl
  | false => rw [hf] at hx; exact q_len hT ho hx hi (by rw [hk]; rfl) rfl
theorem q_indexJ (hT : TOk P T) {t : TypeId} {x y : Operand} {b sz : Nat} {es : List (List AV)} {k : IntKind} {n : Int} {i j : TyI} {u : Nat} (ho : o.op = .indexAddr t x y) (hx : look e x = some (slA b es)) (hy : look e y = some (.int k n))
    (hi : T t = some i) (hk : i.k = .slice u) (hj : T u = some j) (hb : h b = some (slO sz es)) (hsz : sz = j.size) (h0 : 0 ≤ n) (hn : n < es.length) : QLoc P o e h [b] (.ptr b es.length n.toNat 0) := by
  have hlt : n.toNat < es.length := by omega
  rw [slA_at hlt] at hx
  rw [slO_at hlt] at hb
  have := q_index_ref hT ho hx hy hi hk hj hb rfl hsz h0 hn
  rwa [Nat.zero_add] at this
theorem q_indexV (hT : TOk P T) {t : TypeId} {x y : Operand} {b : Nat} {es : List (List AV)} {k : IntKind} {n : Int} {i j : TyI} {u : Nat} (ho : o.op = .indexAddr t x y) (hx : look e x = some (vaA b es)) (hy : look e y = some (.int k n))
    (hi : T t = some i) (hk : i.k = .slice u) (hj : T u = some j) (hb : h b = some (vaO es)) (hsz : 1 = j.size) (h0 : 0 ≤ n) (hn : n < es.length) : QLoc P o e h [b] (.ptr b es.length n.toNat 0) := by
  have hlt : n.toNat < es.length := by omega
  rw [vaA_at hlt] at hx
  rw [vaO_at hlt] at hb
  have := q_index_ref hT ho hx hy hi hk hj hb rfl hsz h0 hn
  rwa [Nat.zero_add] at this
theorem ptsJ {b sz k : Nat} {es : List (List AV)} {cs : List AV} (hb : h b = some (slO sz es)) (hi : es[k]? = some cs) : PtsTo h (.ptr b es.length k 0) [b] cs := by
  have hlt : k < es.length := (List.getElem?_eq_some_iff.1 hi).1
  rw [slO_at hlt] at hb
  exact .ptr b es.length k 0 true sz es cs hb rfl hi
theorem ptsV {b k : Nat} {es : List (List AV)} {cs : List AV} (hb : h b = some (vaO es)) (hi : es[k]? = some cs) : PtsTo h (.ptr b es.length k 0) [b] cs := by
  have hlt : k < es.length := (List.getElem?_eq_some_iff.1 hi).1
  rw [vaO_at hlt] at hb
  exact .ptr b es.length k 0 true 1 es cs hb rfl hi
theorem o_store1 (hT : TOk P T) {t : TypeId} {x y : Operand} {b m k off : Nat} {p : Bool} {sz : Nat} {es : List (List AV)} {cs : List AV} {q : AV} {i : TyI} (ho : o.op = .store t x y) (hd : o.dst = none) (hx : look e x = some (.ptr b m k off)) (hy : look e y = some q) (hi : T t = some i) (his : i.size = 1)
    (hb : h b = some (.row p sz es)) (hm : m = es.length) (hk : es[k]? = some cs) (hq : q.cells = [q]) (hfit : off + 1 ≤ sz) (h1 : q.cell1 = true) (hp : p = true → q.isPure1 = true) :
    OLoc P o e h [b] [(b, .row p sz (es.set k (splice cs off [q])))] none := by
  have := o_store hT ho hd hx hy hi hb hm hk (by rw [hq, his]; rfl) (by rw [his]; exact hfit) (by rw [hq]; simp [h1]) (fun h => by rw [hq]; simp [hp h])
  rwa [hq] at this
theorem o_storeV (hT : TOk P T) {t : TypeId} {x y : Operand} {b k : Nat} {es : List (List AV)} {q : AV} {i : TyI} (ho : o.op = .store t x y) (hd : o.dst = none) (hx : look e x = some (.ptr b es.length k 0)) (hy : look e y = some q) (hi : T t = some i) (his : i.size = 1)
    (hb : h b = some (vaO es)) (hk : k < es.length) (hc : ∀ cs ∈ es, cs.length = 1) (hq : q.cells = [q]) (h1 : q.cell1 = true) (hp : q.isPure1 = true) :
    OLoc P o e h [b] [(b, vaO (es.set k [q]))] none := by
  rw [vaO_at hk] at hb
  have hg := List.getElem?_eq_getElem hk
  have := o_store1 hT ho hd hx hy hi his hb rfl hg hq (Nat.le_refl _) h1 (fun _ => hp)
  have hl : es[k].length = 1 := hc _ (List.getElem_mem hk)
  have e1 : splice es[k] 0 [q] = [q] := by
    unfold splice
    rw [List.drop_of_length_le (by simp [hl])]
    rfl
  rw [e1] at this
  rwa [vaO_at (k := k) (by rw [List.length_set]; exact hk)]
theorem o_append1J (hT : TOk P T) {t t' : TypeId} {x y : Operand} {i i' j : TyI} {u u' : Nat} {ex2 : Bool} {sz : Nat} {es : List (List AV)} {x0 : List AV} {b : Nat}
    (ho : o.op = .call { callee := .builtin .append, args := #[x, y], argTypes := #[t, t'] }) (hx : look e x = some (slA b es)) (hy : look e y = some (.lst ex2 [x0])) (hi : T t = some i) (hk : i.k = .slice u) (hj : T u = some j) (hi' : T t' = some i') (hk' : i'.k = .slice u')
    (hb : h b = some (slO sz es)) (hsz : sz = j.size) (hz : j.zero.length = j.size) (hp : 0 < j.size)
    (hu : ∀ cs ∈ es, cs.length = sz) (hpu : ∀ cs ∈ es, cs.all AV.isPure1 = true) (hu2 : x0.length = sz) (hpure : x0.all AV.isPure1 = true)
    (hby : (es.length + 1) * j.bytes ≤ 140737488355328) (hml : es.length + 1 ≤ maxLen) :
    OLoc P o e h [b] [(b, slO sz (es ++ [x0]))] (some (slA b (es ++ [x0]))) := by
  have := o_appendJ (f := es.isEmpty) hT b ho hx hy hi hk hj hi' hk' hb hsz hz hp hu hpu (by simpa using hu2) (by simpa using hpure) hby hml
  have e1 : (es.isEmpty && [x0].isEmpty) = (es ++ [x0]).isEmpty := by rw [snoc_ne]; simp
  rw [e1] at this
  exact this
theorem o_makeSliceV (hT : TOk P T) {t : TypeId} {x y : Operand} {i j : TyI} {u n : Nat} {k k' : IntKind} {zi zj : Int} (b : Nat) (ho : o.op = .makeSlice t x y) (hx : look e x = some (.int k zi)) (hy : look e y = some (.int k' zj)) (hni : zi = (n : Int)) (hnj : zj = (n : Int)) (hi : T t = some i) (hk : i.k = .slice u) (hj : T u = some j)
    (hb : h b = some .free) (hz : j.zero.length = j.size) (hsz : j.size = 1) (h1 : j.zero.all AV.cell1 = true) (hby : j.bytes * n ≤ 281474976710656) (hm : n ≤ maxLen) :
    OLoc P o e h [b] [(b, vaO (List.replicate n j.zero))] (some (vaA b (List.replicate n j.zero))) := by
  cases n with
  | zero =>
    intro H ι a w s Q hs g1 g2
    have h0 := o_make0 (h := h) hT ho hx hy hni hnj hi hk hj hz (by omega) h1 H ι a w s Q hs g1 (fun b hb => by simp at hb)
    have hb' : s.h b = some .free := by rw [g2 b (by simp), hb]
    have hsame : hputs s.h [(b, vaO (List.replicate 0 j.zero))] = s.h := by
      funext c
      by_cases hc : c = b
      · subst hc; simp [hputs, hput_same, hb', vaO]
      · simp [hputs, hput_ne _ _ hc]
    rw [hsame]
    exact h0
  | succ n =>
    have := o_makeSlice hT b true ho hx hy hni hnj hi hk hj hb hz (by omega) h1 (Nat.le_refl _) hby hm
    have e1 : vaO (List.replicate (n + 1) j.zero) = .row true 1 (List.replicate (n + 1) j.zero) := rfl
    have e2 : vaA b (List.replicate (n + 1) j.zero) = .ref b (n + 1) 0 (n + 1) := by
      simp [vaA, List.replicate_succ]
    rw [e1, e2]
    rw [hsz] at this
    exact this
end
theorem Ghost.weakRowF {n : Nat} {e : AEnv} {h : AHeap} (b : Nat) {sz : Nat} {es es' : List (List AV)} (hb : h b = some (.row false sz es)) (hl : es'.length = es.length)
    (hw : ∀ (i : Nat) (cs cs' : List AV), es[i]? = some cs → es'[i]? = some cs' → cs'.length = cs.length ∧ ∀ (j : Nat) (x y : AV), cs[j]? = some x → cs'[j]? = some y → (x.cell1 = true → y.cell1 = true) ∧ ∀ H ι v, Rel H ι x v → Rel H ι y v) : Ghost ⟨n, e, h⟩ ⟨n, e, hput h b (.row false sz es')⟩ := fun H ι a w hs => by
  obtain ⟨r, hr, ⟨r1, r2, r3, r4, r5, r6⟩, r7⟩ := hs.heap.obj b _ hb rfl
  have hlput : lput ι b r = ι := by
    funext c
    by_cases hc : c = b
    · subst hc; rw [lput_same, hr]
    · rw [lput_ne _ _ hc]
  have hget : ∀ (i : Nat) (cs' : List AV), es'[i]? = some cs' → ∃ cs, es[i]? = some cs := fun i cs' hi => by
    have : i < es'.length := (List.getElem?_eq_some_iff.1 hi).1
    exact ⟨es[i]'(by omega), List.getElem?_eq_getElem (by omega)⟩
  have := hs.heap.upd (o' := .row false sz es') (r' := r) (w' := w) hb rfl (.inr ⟨r, hr, rfl, .inl rfl⟩) (fun hsol => .inr ⟨r, hr, rfl, hsol, rfl⟩) (fun _ _ _ => rfl) (Nat.le_refl _) rfl rfl
    ⟨r1, r2, by rw [hl]; exact r3, by rw [hl]; exact r4, fun i cs' hi => by
      obtain ⟨cs, hc⟩ := hget i cs' hi
      rw [(hw i cs cs' hc hi).1]; exact r5 i cs hc, fun hsol => by
      obtain ⟨c, T, c1, c2, c3, c4⟩ := r6 hsol
      refine ⟨c, T, c1, c2, fun i cs' hi => ?_, ?_⟩
      · obtain ⟨cs, hc⟩ := hget i cs' hi
        rw [(hw i cs cs' hc hi).1]; exact r5 i cs hc
      rw [hlput]
      intro i cs' j y hi hj
      obtain ⟨cs, hc⟩ := hget i cs' hi
      obtain ⟨w1, w2⟩ := hw i cs cs' hc hi
      have hjlt : j < cs'.length := (List.getElem?_eq_some_iff.1 hj).1
      have hx : cs[j]? = some (cs[j]'(by omega)) := List.getElem?_eq_getElem (by omega)
      obtain ⟨v, v1, v2, v3⟩ := c4 i cs j _ hc hx
      obtain ⟨g1, g2⟩ := w2 j _ y hx hj
      exact ⟨v, v1, g2 _ _ _ v2, g1 v3⟩⟩
  rw [hlput] at this
  exact ⟨H, ι, ⟨hs.n, hs.d, hs.env, this.1⟩, this.2⟩
theorem nil_lst {H : Know} {ι : Lay} {v : Value} (h : Rel H ι .nil v) : Rel H ι (.lst true []) v := by
  rw [h.nil_inv]
  exact .lst0 _ _ _ _ (fun _ => rfl) (Nat.zero_le _) (fun _ => rfl) trivial
def valB : List Nat → Nat
  | [] => 0
  | b :: r => b + 2 * valB r
theorem valB_testBit : ∀ (l : List Nat) (j : Nat), (∀ b ∈ l, b < 2) → (valB l).testBit j = ((l[j]?).getD 0 == 1)
  | [], j, _ => by simp [valB]
  | b :: r, 0, h => by
    have hb := h b (by simp)
    simp only [valB, List.getElem?_cons_zero, Option.getD_some, Nat.testBit_zero]
    have : (b + 2 * valB r) % 2 = b := by omega
    rw [this]
    rcases (by omega : b = 0 ∨ b = 1) with rfl | rfl <;> rfl
  | b :: r, j + 1, h => by
    have hb := h b (by simp)
    have ih := valB_testBit r j (fun c hc => h c (by simp [hc]))
    simp only [valB, List.getElem?_cons_succ, Nat.testBit_succ]
    have : (b + 2 * valB r) / 2 = valB r := by omega
    rw [this, ih]
theorem valB_lt : ∀ (l : List Nat), (∀ b ∈ l, b < 2) → valB l < 2 ^ l.length
  | [], _ => by simp [valB]
  | b :: r, h => by
    have hb := h b (by simp)
    have ih := valB_lt r (fun c hc => h c (by simp [hc]))
    simp only [valB, List.length_cons, Nat.pow_succ]
    omega
def bitsN (n k : Nat) : List Nat := (List.range k).map fun i => n / 2 ^ i % 2
theorem bitsN_get {n k i : Nat} (h : i < k) : (bitsN n k)[i]? = some (n / 2 ^ i % 2) := by
  simp [bitsN, h]
def bop (op : Int) (x y : Nat) : Nat := bif (x + y == 2 && op != 11) || (!(x + y == 2 && op != 11) && (x + y == 1 && op != 9)) then 1 else 0
def bothN (op : Int) (a b : Nat) : List Nat := (List.range 32).map fun i => bop op (a / 2 ^ i % 2) (b / 2 ^ i % 2)
theorem bop_lt (op : Int) (x y : Nat) : bop op x y < 2 := by
  unfold bop
  cases (x + y == 2 && op != 11) || (!(x + y == 2 && op != 11) && (x + y == 1 && op != 9)) <;> simp
theorem testBit_div (n i : Nat) : n.testBit i = (n / 2 ^ i % 2 == 1) := by
  rw [Nat.testBit_eq_decide_div_mod_eq]
  cases h : decide (n / 2 ^ i % 2 = 1) <;> simp at h ⊢ <;> exact h
theorem bothN_testBit {op : Int} {a b j : Nat} : (valB (bothN op a b)).testBit j = (decide (j < 32) && (bop op (a / 2 ^ j % 2) (b / 2 ^ j % 2) == 1)) := by
  rw [valB_testBit _ _ (fun c hc => by simp only [bothN, List.mem_map] at hc; obtain ⟨i, _, rfl⟩ := hc; exact bop_lt _ _ _)]
  by_cases hj : j < 32
  · simp [bothN, hj]
  · simp [bothN, hj]
theorem both_and {a b : Nat} (ha : a < 2 ^ 32) (hb : b < 2 ^ 32) : valB (bothN 9 a b) = a &&& b := by
  apply Nat.eq_of_testBit_eq
  intro j
  rw [bothN_testBit, Nat.testBit_and, testBit_div a, testBit_div b]
  by_cases hj : j < 32
  · rcases (by omega : a / 2 ^ j % 2 = 0 ∨ a / 2 ^ j % 2 = 1) with h1 | h1 <;> rcases (by omega : b / 2 ^ j % 2 = 0 ∨ b / 2 ^ j % 2 = 1) with h2 | h2 <;> simp [h1, h2, hj, bop]
  · have : a / 2 ^ j = 0 := Nat.div_eq_of_lt (Nat.lt_of_lt_of_le ha (Nat.pow_le_pow_right (by decide) (by omega)))
    simp [hj, this]
theorem both_or {a b : Nat} (ha : a < 2 ^ 32) (hb : b < 2 ^ 32) : valB (bothN 10 a b) = a ||| b := by
  apply Nat.eq_of_testBit_eq
  intro j
  rw [bothN_testBit, Nat.testBit_or, testBit_div a, testBit_div b]
  by_cases hj : j < 32
  · rcases (by omega : a / 2 ^ j % 2 = 0 ∨ a / 2 ^ j % 2 = 1) with h1 | h1 <;> rcases (by omega : b / 2 ^ j % 2 = 0 ∨ b / 2 ^ j % 2 = 1) with h2 | h2 <;> simp [h1, h2, hj, bop]
  · have h1 : a / 2 ^ j = 0 := Nat.div_eq_of_lt (Nat.lt_of_lt_of_le ha (Nat.pow_le_pow_right (by decide) (by omega)))
    have h2 : b / 2 ^ j = 0 := Nat.div_eq_of_lt (Nat.lt_of_lt_of_le hb (Nat.pow_le_pow_right (by decide) (by omega)))
    simp [hj, h1, h2]
theorem both_xor {a b : Nat} (ha : a < 2 ^ 32) (hb : b < 2 ^ 32) : valB (bothN 11 a b) = a ^^^ b := by
  apply Nat.eq_of_testBit_eq
  intro j
  rw [bothN_testBit, Nat.testBit_xor, testBit_div a, testBit_div b]
  by_cases hj : j < 32
  · rcases (by omega : a / 2 ^ j % 2 = 0 ∨ a / 2 ^ j % 2 = 1) with h1 | h1 <;> rcases (by omega : b / 2 ^ j % 2 = 0 ∨ b / 2 ^ j % 2 = 1) with h2 | h2 <;> simp [h1, h2, hj, bop]
  · have h1 : a / 2 ^ j = 0 := Nat.div_eq_of_lt (Nat.lt_of_lt_of_le ha (Nat.pow_le_pow_right (by decide) (by omega)))
    have h2 : b / 2 ^ j = 0 := Nat.div_eq_of_lt (Nat.lt_of_lt_of_le hb (Nat.pow_le_pow_right (by decide) (by omega)))
    simp [hj, h1, h2]
theorem ofInt_w {a : Int} (h : isW a) : BitVec.ofInt IntKind.u32.bits a = BitVec.ofNat 32 a.toNat := by
  obtain ⟨h1, h2⟩ := h
  obtain ⟨n, rfl⟩ := Int.eq_ofNat_of_zero_le h1
  show BitVec.ofInt 32 (n : Int) = _
  rw [BitVec.ofInt_natCast]; rfl
theorem wrap_w {n : Nat} (h : n < 2 ^ 32) : IntKind.u32.wrap (n : Int) = (n : Int) := by
  rw [IntKind.wrap_u32]; omega
theorem nat_w {a : Int} (h : isW a) : a.toNat < 2 ^ 32 := by
  obtain ⟨h1, h2⟩ := h; omega
theorem both_wapp {op a b : Int} (ha : isW a) (hb : isW b) (ho : op = 9 ∨ op = 10 ∨ op = 11) : wapp op a b = ((valB (bothN op a.toNat b.toNat) : Int), 0) := by
  have h1 := nat_w ha
  have h2 := nat_w hb
  have e1 : (BitVec.ofNat 32 a.toNat).toNat = a.toNat := by rw [BitVec.toNat_ofNat]; omega
  have e2 : (BitVec.ofNat 32 b.toNat).toNat = b.toNat := by rw [BitVec.toNat_ofNat]; omega
  rcases ho with rfl | rfl | rfl
  · have : wapp 9 a b = (IntKind.u32.wrap ((BitVec.ofInt IntKind.u32.bits a &&& BitVec.ofInt IntKind.u32.bits b).toNat), 0) := rfl
    rw [this, ofInt_w ha, ofInt_w hb, both_and h1 h2]
    have h3 : (BitVec.ofNat 32 a.toNat &&& BitVec.ofNat 32 b.toNat).toNat = a.toNat &&& b.toNat := by rw [BitVec.toNat_and, e1, e2]
    rw [← h3]
    exact congrArg (·, 0) (wrap_w (BitVec.isLt _))
  · have : wapp 10 a b = (IntKind.u32.wrap ((BitVec.ofInt IntKind.u32.bits a ||| BitVec.ofInt IntKind.u32.bits b).toNat), 0) := rfl
    rw [this, ofInt_w ha, ofInt_w hb, both_or h1 h2]
    have h3 : (BitVec.ofNat 32 a.toNat ||| BitVec.ofNat 32 b.toNat).toNat = a.toNat ||| b.toNat := by rw [BitVec.toNat_or, e1, e2]
    rw [← h3]
    exact congrArg (·, 0) (wrap_w (BitVec.isLt _))
  · have : wapp 11 a b = (IntKind.u32.wrap ((BitVec.ofInt IntKind.u32.bits a ^^^ BitVec.ofInt IntKind.u32.bits b).toNat), 0) := rfl
    rw [this, ofInt_w ha, ofInt_w hb, both_xor h1 h2]
    have h3 : (BitVec.ofNat 32 a.toNat ^^^ BitVec.ofNat 32 b.toNat).toNat = a.toNat ^^^ b.toNat := by rw [BitVec.toNat_xor, e1, e2]
    rw [← h3]
    exact congrArg (·, 0) (wrap_w (BitVec.isLt _))
def shN (op : Int) : Nat → Nat → Nat
  | n, 0 => n
  | n, k + 1 => bif op == 12 then 2 * shN op n k % 4294967296 else shN op n k / 2
theorem shN_lt {op : Int} {n : Nat} (h : n < 4294967296) : ∀ k, shN op n k < 4294967296
  | 0 => h
  | k + 1 => by
    unfold shN
    have := shN_lt (op := op) h k
    cases op == 12 with
    | true => exact Nat.mod_lt _ (by decide)
    | false => simp only [cond_false]; omega
theorem shN_shl {n : Nat} : ∀ k, shN 12 n k % 4294967296 = n * 2 ^ k % 4294967296
  | 0 => by simp [shN]
  | k + 1 => by
    have ih := shN_shl (n := n) k
    have e : shN 12 n (k + 1) = 2 * shN 12 n k % 4294967296 := rfl
    rw [e, Nat.mod_mod, Nat.mul_mod, ih, ← Nat.mul_mod, Nat.pow_succ]
    congr 1
    rw [Nat.mul_comm 2, Nat.mul_assoc]
theorem shN_shr {op : Int} (ho : (op == 12) = false) {n : Nat} : ∀ k, shN op n k = n / 2 ^ k
  | 0 => by simp [shN]
  | k + 1 => by
    have ih := shN_shr ho (n := n) k
    have e : shN op n (k + 1) = shN op n k / 2 := by rw [shN, ho]; rfl
    rw [e, ih, Nat.div_div_eq_div_mul, Nat.pow_succ]
theorem shN_wshift {op a b : Int} (ha : isW a) (hb : 0 ≤ b) (hb2 : ¬ b > 31) (ho : op = 12 ∨ op = 13) : wshift op a b = ((shN op a.toNat b.toNat : Nat) : Int) := by
  have h1 := nat_w ha
  have hd : decide (b > 31) = false := by simpa using hb2
  have hmin : min b.toNat IntKind.u32.bits = b.toNat := by
    show min b.toNat 32 = b.toNat
    omega
  obtain ⟨n, rfl⟩ := Int.eq_ofNat_of_zero_le ha.1
  unfold wshift
  rw [hd, hmin]
  simp only [cond_false, Int.toNat_natCast]
  rcases ho with rfl | rfl
  · have h3 := shN_shl (n := n) b.toNat
    have h4 := shN_lt (op := 12) (n := n) (by simpa using h1) b.toNat
    show IntKind.u32.wrap ((n : Int) * 2 ^ b.toNat) = _
    rw [Nat.mod_eq_of_lt h4] at h3
    rw [h3, IntKind.wrap_u32, Int.natCast_emod, Int.natCast_mul, Int.natCast_pow]
    rfl
  · rw [shN_shr (by rfl)]
    show Int.fdiv (n : Int) (2 ^ b.toNat) = _
    have hp : (0 : Int) ≤ 2 ^ b.toNat := Int.le_of_lt (Int.pow_pos (by omega))
    rw [Int.fdiv_eq_ediv_of_nonneg _ hp, Int.natCast_ediv, Int.natCast_pow]
    rfl
theorem wrapN_i64 {n : Nat} (h : n < 9223372036854775808) : IntKind.i64.wrap (n : Int) = (n : Int) := wrap_i64 (by omega) (by omega)
theorem wrapN_u64 {n : Nat} (h : n < 18446744073709551616) : IntKind.u64.wrap (n : Int) = (n : Int) := by
  rw [IntKind.wrap_u64]; omega
theorem wrapN_u32 {n : Nat} (h : n < 4294967296) : IntKind.u32.wrap (n : Int) = (n : Int) := by
  rw [IntKind.wrap_u32]; omega
theorem ebin_rem {k : IntKind} {a b : Nat} (hb : 0 < b) : evalBin .rem (.int k (a : Int)) (.int k (b : Int)) = some (.int k ((a % b : Nat) : Int)) := by
  have h0 : ¬ (b : Int) = 0 := by omega
  simp only [evalBin, evalInt, isShift, cond_false, if_true, if_neg h0]
  rw [Int.tmod_eq_emod_of_nonneg (by omega), Int.natCast_emod]
theorem ebin_quo {k : IntKind} {a b : Nat} (hb : 0 < b) (hw : k.wrap ((a / b : Nat) : Int) = ((a / b : Nat) : Int)) : evalBin .quo (.int k (a : Int)) (.int k (b : Int)) = some (.int k ((a / b : Nat) : Int)) := by
  have h0 : ¬ (b : Int) = 0 := by omega
  simp only [evalBin, evalInt, isShift, cond_false, if_true, if_neg h0]
  rw [Int.tdiv_eq_ediv_of_nonneg (by omega), ← Int.natCast_ediv, hw]
theorem ebin_add {k : IntKind} {a b : Nat} (hw : k.wrap ((a + b : Nat) : Int) = ((a + b : Nat) : Int)) : evalBin .add (.int k (a : Int)) (.int k (b : Int)) = some (.int k ((a + b : Nat) : Int)) := by
  simp only [evalBin, evalInt, isShift, cond_false, if_true]
  rw [← Int.natCast_add, hw]
theorem ebin_mul {k : IntKind} {a b : Nat} (hw : k.wrap ((a * b : Nat) : Int) = ((a * b : Nat) : Int)) : evalBin .mul (.int k (a : Int)) (.int k (b : Int)) = some (.int k ((a * b : Nat) : Int)) := by
  simp only [evalBin, evalInt, isShift, cond_false, if_true]
  rw [← Int.natCast_mul, hw]
section
variable {P : Program} {T : Nat → Option TyI} {o : Oper} {e : AEnv} {h : AHeap}
theorem q_convSame (hT : TOk P T) {t u : TypeId} {x : Operand} {k k' : IntKind} {n : Int} {i j : TyI} (ho : o.op = .convert t u x) (hx : look e x = some (.int k' n)) (hi : T t = some i) (hj : T u = some j) (hk : j.k = .int k) (hw : k.wrap n = n) : QLoc P o e h [] (.int k n) := by
  have := q_convInt (h := h) hT ho hx hi hj hk
  rwa [hw] at this
end
def natCells (l : List Nat) : List (List AV) := l.map fun (b : Nat) => [AV.int .i64 (b : Int)]
theorem bitsN_succ (n k : Nat) : bitsN n (k + 1) = bitsN n k ++ [n / 2 ^ k % 2] := by
  simp [bitsN, List.range_succ]
theorem bitsN_length (n k : Nat) : (bitsN n k).length = k := by simp [bitsN]
theorem valB_drop {l : List Nat} {i b : Nat} (h : l[i]? = some b) : valB (l.drop i) = b + 2 * valB (l.drop (i + 1)) := by
  have hi : i < l.length := (List.getElem?_eq_some_iff.1 h).1
  rw [List.drop_eq_getElem_cons hi]
  have : l[i] = b := by rw [List.getElem?_eq_getElem hi] at h; cases h; rfl
  rw [this]; rfl
def mixB (op : Int) (a b i : Nat) : List Nat := (bothN op a b).take i ++ (bitsN a 32).drop i
theorem bothN_length (op : Int) (a b : Nat) : (bothN op a b).length = 32 := by simp [bothN]
theorem mixB_length {op : Int} {a b i : Nat} (h : i ≤ 32) : (mixB op a b i).length = 32 := by
  simp [mixB, bothN_length, bitsN_length]; omega
theorem mixB_get {op : Int} {a b i : Nat} (h : i < 32) : (mixB op a b i)[i]? = some (a / 2 ^ i % 2) := by
  have hl : ((bothN op a b).take i).length = i := by simp [bothN_length]; omega
  rw [mixB, List.getElem?_append_right (by omega), hl, Nat.sub_self, List.getElem?_drop, Nat.add_zero, bitsN_get h]
theorem mixB_succ {op : Int} {a b i : Nat} (h : i < 32) : mixB op a b (i + 1) = (mixB op a b i).set i (bop op (a / 2 ^ i % 2) (b / 2 ^ i % 2)) := by
  have hl : ((bothN op a b).take i).length = i := by simp [bothN_length]; omega
  have hg : (bothN op a b)[i]? = some (bop op (a / 2 ^ i % 2) (b / 2 ^ i % 2)) := by simp [bothN, h]
  have hd : (bitsN a 32).drop i = (a / 2 ^ i % 2) :: (bitsN a 32).drop (i + 1) := by
    have hi : i < (bitsN a 32).length := by rw [bitsN_length]; exact h
    rw [List.drop_eq_getElem_cons hi]
    congr 1
    have := bitsN_get (n := a) h
    rw [List.getElem?_eq_getElem hi] at this
    exact Option.some.inj this
  unfold mixB
  rw [List.set_append, if_neg (by omega), hl, Nat.sub_self, take_succ_eq hg, List.append_assoc, hd]
  rfl
theorem Ghost.freezeAll {n : Nat} {e : AEnv} {h : AHeap} (t b : Nat) {m sz : Nat} {es : List (List AV)} (ht : e t = some (.ref b m 0 m)) (hb : h b = some (.row true sz es)) (hm : m = es.length) :
    Ghost ⟨n, e, h⟩ ⟨n, eput e t (.lst false es), hrm h b⟩ := by
  have := Ghost.freeze (n := n) t b ht hb hm
  rwa [List.drop_zero, List.take_of_length_le (Nat.le_of_eq hm.symm)] at this
theorem ebin_sub {k : IntKind} {a b : Nat} (hba : b ≤ a) (hw : k.wrap ((a - b : Nat) : Int) = ((a - b : Nat) : Int)) : evalBin .sub (.int k (a : Int)) (.int k (b : Int)) = some (.int k ((a - b : Nat) : Int)) := by
  simp only [evalBin, evalInt, isShift, cond_false, if_true]
  rw [← Int.ofNat_sub hba, hw]
theorem natCells_get {l : List Nat} {i b : Nat} (h : l[i]? = some b) : (natCells l)[0 + ((i : Nat) : Int).toNat]? = some [AV.int .i64 (b : Int)] := by
  rw [Nat.zero_add, Int.toNat_natCast, natCells, List.getElem?_map, h]; rfl
theorem get_set_self {α : Type} {l : List α} {i : Nat} {x y : α} (h : l[i]? = some x) : (l.set i y)[i]? = some y := by
  have hi := (List.getElem?_eq_some_iff.1 h).1
  simp [hi]
theorem natCells_len (l : List Nat) : (natCells l).length = l.length := by simp [natCells]
theorem natCells_append (l : List Nat) (b : Nat) : natCells (l ++ [b]) = natCells l ++ [[AV.int .i64 (b : Int)]] := by simp [natCells]
theorem natCells_set (l : List Nat) (i b : Nat) : (natCells l).set i [AV.int .i64 (b : Int)] = natCells (l.set i b) := by simp [natCells, List.map_set]
theorem bits_append (a k : Nat) : natCells (bitsN a k) ++ [[AV.int .i64 ((a / 2 ^ k % 2 : Nat) : Int)]] = natCells (bitsN a (k + 1)) := by
  rw [bitsN_succ, natCells_append]
theorem valB_drop_lt {l : List Nat} (hl : l.length = 32) (hb : ∀ b ∈ l, b < 2) (m : Nat) : valB (l.drop m) < 4294967296 := by
  have h := valB_lt (l.drop m) (fun b h => hb b (List.mem_of_mem_drop h))
  have : (2 : Nat) ^ (l.drop m).length ≤ 2 ^ 32 := Nat.pow_le_pow_right (by decide) (by simp; omega)
  have e : (2 : Nat) ^ 32 = 4294967296 := rfl
  omega
theorem both_set0 {op : Int} {a b k : Nat} (hk : k < 32) {c : List AV} (h : bop op (a / 2 ^ k % 2) (b / 2 ^ k % 2) = 0) : (natCells (mixB op a b k)).set (0 + ((k : Nat) : Int).toNat) [AV.int .i64 0] = natCells (mixB op a b (k + 1)) := by
  rw [mixB_succ hk, h, ← natCells_set, Nat.zero_add, Int.toNat_natCast]; rfl
theorem both_set1 {op : Int} {a b k : Nat} (hk : k < 32) {c : List AV} (h : bop op (a / 2 ^ k % 2) (b / 2 ^ k % 2) = 1) : ((natCells (mixB op a b k)).set (0 + ((k : Nat) : Int).toNat) c).set (0 + ((k : Nat) : Int).toNat) [AV.int .i64 1] = natCells (mixB op a b (k + 1)) := by
  rw [List.set_set, mixB_succ hk, h, ← natCells_set, Nat.zero_add, Int.toNat_natCast]; rfl
theorem mixB_zero (op : Int) (a b : Nat) : mixB op a b 0 = bitsN a 32 := by simp [mixB]
theorem mixB_end (op : Int) (a b : Nat) : mixB op a b 32 = bothN op a b := by
  have h1 := bothN_length op a b
  have h2 := bitsN_length a 32
  unfold mixB
  rw [List.take_of_length_le (by omega), List.drop_eq_nil_of_le (by omega), List.append_nil]
theorem bothN_lt (op : Int) (a b : Nat) : ∀ c ∈ bothN op a b, c < 2 := fun c hc => by
  simp only [bothN, List.mem_map] at hc
  obtain ⟨i, _, rfl⟩ := hc; exact bop_lt _ _ _
theorem isW_nat {a : Nat} (h : a < 4294967296) : isW (a : Int) := by constructor <;> omega
theorem wapp_add (a b : Nat) : wapp 4 a b = ((((a + b) % 4294967296 : Nat) : Int), 0) := by
  show (IntKind.u32.wrap ((a : Int) + b), (0 : Int)) = _
  rw [IntKind.wrap_u32]; rfl
theorem wapp_sub {a b : Nat} (h : b < 4294967296) : wapp 5 a b = ((((a + 4294967296 - b) % 4294967296 : Nat) : Int), 0) := by
  show (IntKind.u32.wrap ((a : Int) - b), (0 : Int)) = _
  rw [IntKind.wrap_u32]; congr 1; omega
theorem wapp_mul (a b : Nat) : wapp 6 a b = (((a * b % 4294967296 : Nat) : Int), 0) := by
  show (IntKind.u32.wrap ((a : Int) * b), (0 : Int)) = _
  rw [IntKind.wrap_u32, ← Int.natCast_mul]; rfl
theorem wapp_div0 (op a : Int) (h : op = 7 ∨ op = 8) : wapp op a 0 = (0, 14) := by
  rcases h with rfl | rfl <;> rfl
theorem wapp_div {a b : Nat} (ha : a < 4294967296) (h : ¬ b = 0) : wapp 7 a b = (((a / b : Nat) : Int), 0) := by
  show wdivide 7 a b = _
  have hb : ((b : Int) == 0) = false := by simp; omega
  unfold wdivide
  rw [hb]
  show (IntKind.u32.wrap ((a : Int).tdiv b), (0 : Int)) = _
  have h2 : a / b ≤ a := Nat.div_le_self a b
  rw [Int.tdiv_eq_ediv_of_nonneg (by omega), ← Int.natCast_ediv, wrapN_u32 (by omega)]
theorem wapp_mod {a b : Nat} (h : ¬ b = 0) : wapp 8 a b = (((a % b : Nat) : Int), 0) := by
  show wdivide 8 a b = _
  have hb : ((b : Int) == 0) = false := by simp; omega
  unfold wdivide
  rw [hb]
  show ((a : Int).tmod b, (0 : Int)) = _
  rw [Int.tmod_eq_emod_of_nonneg (by omega)]; rfl
theorem wapp_both {op : Int} {a b : Nat} (ha : a < 4294967296) (hb : b < 4294967296) (ho : op = 9 ∨ op = 10 ∨ op = 11) : wapp op a b = (((valB (bothN op a b) : Nat) : Int), 0) := both_wapp (isW_nat ha) (isW_nat hb) ho
theorem wapp_shift {op : Int} {a b : Nat} (ho : op = 12 ∨ op = 13) : wapp op a b = (wshift op a b, 0) := by
  rcases ho with rfl | rfl <;> rfl
theorem wshift_big (op : Int) {a b : Nat} (h : 32 ≤ b) : wshift op a b = 0 := by
  unfold wshift
  rw [show decide ((b : Int) > 31) = true by simp; omega]; rfl
theorem wshift_small {op : Int} {a b : Nat} (ha : a < 4294967296) (hb : b < 32) (ho : op = 12 ∨ op = 13) : wshift op a b = (shN op a b : Nat) := shN_wshift (isW_nat ha) (by omega) (by omega) ho
theorem wapp_lt (a b : Int) : wapp 14 a b = (bif decide (a < b) then 1 else 0, 0) := by
  show (wcompare 14 a b, (0 : Int)) = _
  simp [wcompare]
theorem wapp_eq (a b : Int) : wapp 15 a b = (bif a == b then 1 else 0, 0) := by
  show (wcompare 15 a b, (0 : Int)) = _
  simp [wcompare]
def Tac.inR (t : Tac) (regs : Int) : Prop := (setsOp t.op = true → 0 ≤ t.d ∧ t.d < regs) ∧ ∀ u ∈ t.uses, 0 ≤ u ∧ u < regs
structure Mach where
  words : List Int
  out : List UInt8
  read : Nat
  steps : Nat
  fin : Int
def rget (l : List Int) (z : Int) : Int := (l[z.toNat]?).getD 0
def rset (l : List Int) (z v : Int) : List Int := l.set z.toNat v
def m0 (b : Blocks) : Mach := ⟨List.replicate b.words.toNat 0, [], 0, 0, 0⟩
theorem rset_length (l : List Int) (z v : Int) : (rset l z v).length = l.length := by simp [rset]
section
variable {P : Program} {T : Nat → Option TyI} {o : Oper} {e : AEnv} {h : AHeap}
theorem q_convTo (hT : TOk P T) {t u : TypeId} {x : Operand} {k k' : IntKind} {n r : Int} {i j : TyI} (ho : o.op = .convert t u x) (hx : look e x = some (.int k' n)) (hi : T t = some i) (hj : T u = some j) (hk : j.k = .int k) (hw : k.wrap n = r) : QLoc P o e h [] (.int k r) := by
  have := q_convInt (h := h) hT ho hx hi hj hk
  rwa [hw] at this
end
section
variable {call : Int → Mach → Mach} {s : ByteArray} {t : Tac} {regs : List Int} {m : Mach}
end
structure TacIn (t : Tac) (number R : Nat) (words : Nat) : Prop where
  op : 1 ≤ t.op ∧ t.op ≤ 10
  d : setsOp t.op = true → 0 ≤ t.d ∧ t.d < R
  a : use1 t.op = true ∨ use2 t.op = true → 0 ≤ t.a ∧ t.a < R
  b : use2 t.op = true → 0 ≤ t.b ∧ t.b < R
  base : t.op = 4 ∨ t.op = 5 → 0 ≤ t.base ∧ t.base < words
  arr : t.op = 6 ∨ t.op = 7 → 1 ≤ t.size ∧ t.size ≤ 4096 ∧ 0 ≤ t.base ∧ t.base + t.size ≤ words
  call : t.op = 10 → 0 ≤ t.base ∧ t.base < number
theorem tacIn_of {t : Tac} {f regs words : Int} (h : t.fits f regs words = true) : TacIn t f.toNat regs.toNat words.toNat := by
  have h0 := h
  simp only [Tac.fits, Bool.and_eq_true, Bool.or_eq_true, Bool.not_eq_true', List.all_eq_true, within, decide_eq_true_eq] at h
  obtain ⟨h1, h2, h3, h4, h5, _⟩ := h
  refine ⟨⟨h1, h2⟩, fun e => ?_, fun e => ?_, fun e => ?_, fun e => ?_, fun e => ?_, fun e => ?_⟩
  · rcases h3 with h3 | h3
    · rw [e] at h3; cases h3
    · omega
  · have := h4 t.a (by rcases e with e | e <;> simp [Tac.uses, e] <;> cases use1 t.op <;> simp)
    omega
  · have e2 := use12 t.op
    rw [e, Bool.and_true] at e2
    have := h4 t.b (by simp [Tac.uses, e, e2])
    omega
  · rcases e with e | e <;> simp [Tac.rest, baseOp, e, within] at h5 <;> omega
  · rcases e with e | e <;> simp [Tac.rest, baseOp, arrOp, e] at h5 <;> omega
  · simp [Tac.rest, baseOp, arrOp, e, within] at h5; omega
structure FG where
  i : Int
  regs : List Int
  m : Mach
  g : Nat
structure IG where
  j : Nat
  regs : List Int
  m : Mach
section
variable {call : Int → Mach → Mach} {s : ByteArray} {fuel : Int} {f : BFunc} {W R : Nat} {tgt : Mach} {q : FG} {k : Block} {r : IG}
end
def kidx (k : List Int) : List (List Int) → Option Nat
  | [] => none
  | x :: r => bif k == x then some 0 else (kidx k r).map (· + 1)
def vnum (first : Int) (K : List (List Int)) (k : List Int) : Int × List (List Int) :=
  match kidx k K with
  | some i => (first + (i : Int), K)
  | none => (first + (K.length : Int), K ++ [k])
def vmap (first : Int) : List (List Int) → AMap
  | [] => []
  | x :: r => (x, .int .i64 first) :: vmap (first + 1) r
theorem vmap_look (k : List Int) : ∀ (K : List (List Int)) (first : Int), alook k (vmap first K) = (kidx k K).map fun (i : Nat) => (i, AV.int .i64 (first + (i : Int)))
  | [], _ => rfl
  | x :: r, first => by
    unfold vmap alook kidx
    cases hx : k == x with
    | true => simp
    | false =>
      simp only [cond_false, vmap_look k r (first + 1), Option.map_map]
      congr 1
      funext i
      show (i + 1, AV.int .i64 (first + 1 + (i : Int))) = (i + 1, AV.int .i64 (first + ((i + 1 : Nat) : Int)))
      rw [show first + 1 + (i : Int) = first + ((i + 1 : Nat) : Int) by omega]
theorem vmap_get (k : List Int) (K : List (List Int)) (first : Int) : aget k (vmap first K) = (kidx k K).map fun (i : Nat) => AV.int .i64 (first + (i : Int)) := by
  unfold aget
  rw [vmap_look, Option.map_map]; rfl
theorem vmap_set {k : List Int} : ∀ {K : List (List Int)} {first : Int}, kidx k K = none → aset k (.int .i64 (first + (K.length : Int))) (vmap first K) = vmap first (K ++ [k])
  | [], first, _ => by simp [vmap, aset]
  | x :: r, first, h => by
    unfold kidx at h
    cases hx : k == x with
    | true => rw [hx] at h; cases h
    | false =>
      rw [hx] at h
      have h' : kidx k r = none := by simpa using h
      have ih := vmap_set (first := first + 1) h'
      simp only [List.cons_append, vmap, aset, hx, cond_false, List.length_cons]
      rw [← ih]
      congr 3
      push_cast; omega
theorem vmap_keys {K : List (List Int)} (h : ∀ k ∈ K, k.length = 4) : ∀ {first : Int}, ∀ p ∈ vmap first K, p.1.length = 4 := by
  induction K with
  | nil => intro first p hp; simp [vmap] at hp
  | cons x r ih =>
    intro first p hp
    simp only [vmap, List.mem_cons] at hp
    rcases hp with rfl | hp
    · exact h x (by simp)
    · exact ih (fun k hk => h k (by simp [hk])) p hp
theorem kidx_lt {k : List Int} : ∀ {K : List (List Int)} {i : Nat}, kidx k K = some i → i < K.length ∧ K[i]? = some k
  | [], i, h => by cases h
  | x :: r, i, h => by
    unfold kidx at h
    cases hx : k == x with
    | true => rw [hx] at h; cases h; exact ⟨by simp, by simp at hx; simp [hx]⟩
    | false =>
      rw [hx] at h
      simp only [cond_false, Option.map_eq_some_iff] at h
      obtain ⟨j, hj, rfl⟩ := h
      obtain ⟨h1, h2⟩ := kidx_lt hj
      exact ⟨by simp; omega, by simpa using h2⟩
def vconst (first : Int) (K : List (List Int)) (n : Int) : Int × Bool :=
  bif decide (n < first) then (0, false) else (IntKind.u32.wrap (rget ((K[(n - first).toNat]?).getD []) 1), rget ((K[(n - first).toNat]?).getD []) 0 == 1)
def vapply (first : Int) (K : List (List Int)) (op a b : Int) : Int × List (List Int) :=
  bif (vconst first K a).2 && (vconst first K b).2 && (wapp op (vconst first K a).1 (vconst first K b).1).2 == 0 then vnum first K [1, (wapp op (vconst first K a).1 (vconst first K b).1).1, 0, 0]
  else vnum first K [2, op, a, b]
structure VW where
  K : List (List Int)
  vals : List Int
  effs : List (List Int)
  time : Int
def VW.put (w : VW) (z : Int) (p : Int × List (List Int)) : VW := { w with K := p.2, vals := rset w.vals z p.1 }
def VW.hap (w : VW) (t : Tac) (a b : Int) : VW := { w with effs := w.effs ++ [[2, t.op, t.base, t.size, a, b]] }
def VW.tick (w : VW) : VW := { w with time := w.time + 1 }
def vunk (first : Int) (w : VW) : Int × List (List Int) := vnum first w.K [4, (w.effs.length : Int), 0, 0]
def vrisky (first : Int) (w : VW) (t : Tac) : Bool := (t.k == 7 || t.k == 8) && (!(vconst first w.K (rget w.vals t.b)).2 || (vconst first w.K (rget w.vals t.b)).1 == 0)
def VW.div (first : Int) (w : VW) (t : Tac) : VW := bif vrisky first w t then { w with effs := w.effs ++ [[1, t.k, rget w.vals t.a, rget w.vals t.b, 0, 0]] } else w
def VW.bin (first : Int) (w : VW) (t : Tac) : VW := (w.div first t).put t.d (vapply first w.K t.k (rget w.vals t.a) (rget w.vals t.b))
def VW.step (first : Int) (w : VW) (t : Tac) : VW :=
  bif t.op == 1 then w.put t.d (vnum first w.K [1, t.n, 0, 0])
  else bif t.op == 2 then { w with vals := rset w.vals t.d (rget w.vals t.a) }
  else bif t.op == 3 then w.bin first t
  else bif t.op == 4 then w.put t.d (vnum first w.K [3, t.base, w.time, 0])
  else bif t.op == 5 then (w.hap t (rget w.vals t.a) 0).tick
  else bif t.op == 6 then (w.hap t (rget w.vals t.a) 0).put t.d (vunk first (w.hap t (rget w.vals t.a) 0))
  else bif t.op == 7 then (w.hap t (rget w.vals t.a) (rget w.vals t.b)).tick
  else bif t.op == 8 then (w.hap t 0 0).put t.d (vunk first (w.hap t 0 0))
  else bif t.op == 9 then w.hap t (rget w.vals t.a) 0
  else bif t.op == 10 then (w.hap t 0 0).tick
  else w
structure VOk (first : Int) (R m : Nat) (w : VW) : Prop where
  f : 0 ≤ first ∧ first ≤ 100000
  k4 : ∀ k ∈ w.K, k.length = 4
  e6 : ∀ k ∈ w.effs, k.length = 6
  kl : w.K.length ≤ m
  el : w.effs.length ≤ m
  tl : 0 ≤ w.time ∧ w.time ≤ m
  vl : w.vals.length = R
  v : ∀ n ∈ w.vals, 0 ≤ n ∧ n < first + w.K.length
theorem vnum_ok {first : Int} {K : List (List Int)} {k : List Int} (h : ∀ k ∈ K, k.length = 4) (hk : k.length = 4) (hf : 0 ≤ first) :
    (∀ x ∈ (vnum first K k).2, x.length = 4) ∧ K.length ≤ (vnum first K k).2.length ∧ (vnum first K k).2.length ≤ K.length + 1 ∧ 0 ≤ (vnum first K k).1 ∧ (vnum first K k).1 < first + (vnum first K k).2.length := by
  unfold vnum
  cases e : kidx k K with
  | none =>
    refine ⟨fun x hx => ?_, by simp, by simp, by dsimp only; omega, by simp; omega⟩
    simp only [List.mem_append, List.mem_singleton] at hx
    rcases hx with hx | rfl
    · exact h x hx
    · exact hk
  | some i =>
    have := (kidx_lt e).1
    exact ⟨h, Nat.le_refl _, Nat.le_succ _, by dsimp only; omega, by dsimp only; omega⟩
theorem vapply_ok {first : Int} {K : List (List Int)} {op a b : Int} (h : ∀ k ∈ K, k.length = 4) (hf : 0 ≤ first) :
    (∀ x ∈ (vapply first K op a b).2, x.length = 4) ∧ K.length ≤ (vapply first K op a b).2.length ∧ (vapply first K op a b).2.length ≤ K.length + 1 ∧ 0 ≤ (vapply first K op a b).1 ∧ (vapply first K op a b).1 < first + (vapply first K op a b).2.length := by
  unfold vapply
  cases (vconst first K a).2 && (vconst first K b).2 && (wapp op (vconst first K a).1 (vconst first K b).1).2 == 0 with
  | true => exact vnum_ok h rfl hf
  | false => exact vnum_ok h rfl hf
theorem VOk.mono {first : Int} {R m m' : Nat} {w : VW} (h : VOk first R m w) (hm : m ≤ m') : VOk first R m' w :=
  ⟨h.f, h.k4, h.e6, Nat.le_trans h.kl hm, Nat.le_trans h.el hm, ⟨h.tl.1, by have := h.tl.2; omega⟩, h.vl, h.v⟩
theorem VOk.put {first : Int} {R m : Nat} {w : VW} (h : VOk first R m w) (z : Int) {p : Int × List (List Int)} (hp : (∀ x ∈ p.2, x.length = 4) ∧ w.K.length ≤ p.2.length ∧ p.2.length ≤ w.K.length + 1 ∧ 0 ≤ p.1 ∧ p.1 < first + p.2.length) : VOk first R (m + 1) (w.put z p) where
  f := h.f
  k4 := hp.1
  e6 := h.e6
  kl := by have := h.kl; show p.2.length ≤ _; omega
  el := by have := h.el; show w.effs.length ≤ _; omega
  tl := ⟨h.tl.1, by have := h.tl.2; show w.time ≤ _; omega⟩
  vl := by show (rset w.vals z p.1).length = R; rw [rset_length]; exact h.vl
  v := fun n hn => by
    have hn' : n ∈ rset w.vals z p.1 := hn
    unfold rset at hn'
    show 0 ≤ n ∧ n < first + (p.2.length : Int)
    rcases List.mem_or_eq_of_mem_set hn' with hn' | rfl
    · have := h.v n hn'; omega
    · exact hp.2.2.2
theorem VOk.eff {first : Int} {R m : Nat} {w : VW} (h : VOk first R m w) {x : List Int} (hx : x.length = 6) : VOk first R (m + 1) { w with effs := w.effs ++ [x] } where
  f := h.f
  k4 := h.k4
  e6 := fun k hk => by
    have hk' : k ∈ w.effs ++ [x] := hk
    simp only [List.mem_append, List.mem_singleton] at hk'
    rcases hk' with hk' | rfl
    · exact h.e6 k hk'
    · exact hx
  kl := by have := h.kl; show w.K.length ≤ _; omega
  el := by have := h.el; show (w.effs ++ [x]).length ≤ _; simp; omega
  tl := ⟨h.tl.1, by have := h.tl.2; show w.time ≤ _; omega⟩
  vl := h.vl
  v := h.v
theorem VOk.tick {first : Int} {R m : Nat} {w : VW} (h : VOk first R m w) : VOk first R (m + 1) w.tick where
  f := h.f
  k4 := h.k4
  e6 := h.e6
  kl := by have := h.kl; show w.K.length ≤ _; omega
  el := by have := h.el; show w.effs.length ≤ _; omega
  tl := ⟨by have := h.tl.1; show 0 ≤ w.time + 1; omega, by have := h.tl.2; show w.time + 1 ≤ _; push_cast; omega⟩
  vl := h.vl
  v := h.v
theorem VOk.div {first : Int} {R m : Nat} {w : VW} (h : VOk first R m w) (t : Tac) : VOk first R (m + 1) (w.div first t) := by
  unfold VW.div
  cases vrisky first w t with
  | true => exact h.eff rfl
  | false => exact h.mono (Nat.le_succ _)
theorem div_K (first : Int) (w : VW) (t : Tac) : (w.div first t).K = w.K := by unfold VW.div; cases vrisky first w t <;> rfl
theorem rget_in {l : List Int} {z : Int} (h : 0 ≤ z ∧ z < l.length) : rget l z ∈ l := by
  unfold rget
  rw [List.getElem?_eq_getElem (by omega)]
  exact List.getElem_mem _
theorem VOk.step {first : Int} {R m : Nat} {w : VW} (h : VOk first R m w) (t : Tac) (ha : use1 t.op = true → 0 ≤ t.a ∧ t.a < R) : VOk first R (m + 2) (w.step first t) := by
  unfold VW.step
  have hp := fun (k : List Int) (hk : k.length = 4) => vnum_ok (k := k) h.k4 hk h.f.1
  cases t.op == 1 with
  | true => exact (h.put _ (hp _ rfl)).mono (Nat.le_succ _)
  | false =>
  cases h2 : t.op == 2 with
  | true =>
    have h2' : t.op = 2 := by simpa using h2
    refine VOk.mono (m := m) ⟨h.f, h.k4, h.e6, h.kl, h.el, h.tl, ?_, fun n hn => ?_⟩ (by omega)
    · show (rset w.vals t.d _).length = R; rw [rset_length]; exact h.vl
    · have hn' : n ∈ rset w.vals t.d (rget w.vals t.a) := hn
      unfold rset at hn'
      rcases List.mem_or_eq_of_mem_set hn' with hn' | rfl
      · exact h.v n hn'
      · have := ha (by simp [use1, h2'])
        exact h.v _ (rget_in (by rw [h.vl]; exact this))
  | false =>
  cases t.op == 3 with
  | true =>
    have h1 := h.div t
    have := vapply_ok (op := t.k) (a := rget w.vals t.a) (b := rget w.vals t.b) h.k4 h.f.1
    rw [← div_K first w t] at this
    have h2 := h1.put t.d this
    rw [div_K] at h2
    exact h2
  | false =>
  cases t.op == 4 with
  | true => exact (h.put _ (hp _ rfl)).mono (Nat.le_succ _)
  | false =>
  cases t.op == 5 with
  | true => exact VOk.tick (VOk.eff h rfl)
  | false =>
  cases t.op == 6 with
  | true => exact VOk.put (VOk.eff h rfl) _ (vnum_ok (k := [4, _, 0, 0]) h.k4 rfl h.f.1)
  | false =>
  cases t.op == 7 with
  | true => exact VOk.tick (VOk.eff h rfl)
  | false =>
  cases t.op == 8 with
  | true => exact VOk.put (VOk.eff h rfl) _ (vnum_ok (k := [4, _, 0, 0]) h.k4 rfl h.f.1)
  | false =>
  cases t.op == 9 with
  | true => exact (VOk.eff h rfl).mono (Nat.le_succ _)
  | false =>
  cases t.op == 10 with
  | true => exact VOk.tick (VOk.eff h rfl)
  | false => exact h.mono (by omega)
theorem addZ {x y z : Int} (h1 : -9223372036854775808 ≤ x + y) (h2 : x + y ≤ 9223372036854775807) (hz : z = x + y) : evalBin .add (.int .i64 x) (.int .i64 y) = some (.int .i64 z) := by
  subst hz
  show evalInt .add .i64 x y = _
  simp only [evalInt]
  rw [wrap_i64 h1 h2]
theorem subZ {x y z : Int} (h1 : -9223372036854775808 ≤ x - y) (h2 : x - y ≤ 9223372036854775807) (hz : z = x - y) : evalBin .sub (.int .i64 x) (.int .i64 y) = some (.int .i64 z) := by
  subst hz
  show evalInt .sub .i64 x y = _
  simp only [evalInt]
  rw [wrap_i64 h1 h2]
theorem mulZ {x y z : Int} (h1 : -9223372036854775808 ≤ x * y) (h2 : x * y ≤ 9223372036854775807) (hz : z = x * y) : evalBin .mul (.int .i64 x) (.int .i64 y) = some (.int .i64 z) := by
  subst hz
  show evalInt .mul .i64 x y = _
  simp only [evalInt]
  rw [wrap_i64 h1 h2]
theorem vnone {k : List Int} {K : List (List Int)} {first : Int} (h : (!(aget k (vmap first K)).isSome) = true) : kidx k K = none := by
  rw [vmap_get] at h
  cases e : kidx k K with
  | none => rfl
  | some i => rw [e] at h; cases h
theorem vsome {k : List Int} {K : List (List Int)} {first : Int} (h : (!(aget k (vmap first K)).isSome) = false) : ∃ i, kidx k K = some i := by
  rw [vmap_get] at h
  cases e : kidx k K with
  | none => rw [e] at h; cases h
  | some i => exact ⟨i, rfl⟩
theorem vnum_new {k : List Int} {K : List (List Int)} {first : Int} (h : kidx k K = none) : vnum first K k = (first + (K.length : Int), K ++ [k]) := by unfold vnum; rw [h]
theorem vnum_old {k : List Int} {K : List (List Int)} {first : Int} {i : Nat} (h : kidx k K = some i) : vnum first K k = (first + (i : Int), K) := by unfold vnum; rw [h]
theorem arr_len {K : List (List Int)} {n : Nat} {q : IntKind} (h : ∀ k ∈ K, k.length = n) : ∀ cs ∈ K.map (arrAV q), cs.length = n := fun cs hc => by
  obtain ⟨k, hk, rfl⟩ := List.mem_map.1 hc
  simp [arrAV, h k hk]
theorem arr_all (q : IntKind) (k : List Int) : (arrAV q k).all AV.isPure1 = true := by
  rw [List.all_eq_true]
  intro x hx
  obtain ⟨n, _, rfl⟩ := List.mem_map.1 hx
  rfl
theorem arr_pure {q : IntKind} (K : List (List Int)) : ∀ cs ∈ K.map (arrAV q), cs.all AV.isPure1 = true := fun cs hc => by
  obtain ⟨k, hk, rfl⟩ := List.mem_map.1 hc
  exact arr_all q k
theorem tab_avoid {k : Nat → Bool} (x : Int) (es : List (List AV)) (h1 : k 3 = true) (h2 : k 9 = true) : (AObj.row false 3 [[.int .i64 x, .map 3, slA 9 es]]).avoid k = true := by
  have h := slA_avoid es h2
  have g : (AV.map 3).avoid k = true := h1
  have g2 : (AV.int .i64 x).avoid k = true := rfl
  simp only [AObj.avoid, List.all_cons, List.all_nil, h, g, g2, Bool.and_self]
theorem wlk_avoid {k : Nat → Bool} {v p : Nat} (es es2 : List (List AV)) (x : Int) (h1 : k 4 = true) (h2 : k v = true) (h3 : k p = true) : (AObj.row false 4 [[.ptr 4 1 0 0, vaA v es, slA p es2, .int .i64 x]]).avoid k = true := by
  have h := slA_avoid es2 h3
  have h' := vaA_avoid es h2
  have g : (AV.ptr 4 1 0 0).avoid k = true := h1
  have g2 : (AV.int .i64 x).avoid k = true := rfl
  simp only [AObj.avoid, List.all_cons, List.all_nil, h, h', g, g2, Bool.and_self]
theorem len4 {k : List Int} (h : k.length = 4) : ∃ a b c d, k = [a, b, c, d] := by
  match k, h with
  | [a, b, c, d], _ => exact ⟨a, b, c, d, rfl⟩
theorem vconst_w (first : Int) (K : List (List Int)) (n : Int) : isW (vconst first K n).1 := by
  unfold vconst
  cases decide (n < first) with
  | true => exact isW_zero
  | false => exact isW_wrap _
theorem vkey {first : Int} {K : List (List Int)} {n : Int} (h4 : ∀ k ∈ K, k.length = 4) (hn : 0 ≤ n ∧ n < first + K.length) (h : decide (n < first) = false) :
    0 ≤ n - first ∧ n - first < ((K.map (arrAV .i64)).length : Int) ∧ ∃ a b c d : Int, (K.map (arrAV .i64))[(n - first).toNat]? = some [.int .i64 a, .int .i64 b, .int .i64 c, .int .i64 d] ∧ vconst first K n = (IntKind.u32.wrap b, a == 1) := by
  have hge : first ≤ n := by simpa using h
  have hlt : (n - first).toNat < K.length := by omega
  obtain ⟨k, hk⟩ := get_of_lt hlt
  obtain ⟨a, b, c, d, rfl⟩ := len4 (h4 k (List.mem_of_getElem? hk))
  refine ⟨by omega, by rw [List.length_map]; omega, a, b, c, d, by rw [List.getElem?_map, hk]; rfl, ?_⟩
  unfold vconst
  rw [h, hk]
  rfl
theorem vconst_low {first : Int} {K : List (List Int)} {n : Int} (h : decide (n < first) = true) : vconst first K n = (0, false) := by unfold vconst; rw [h]; rfl
theorem vapply_c {first : Int} {K : List (List Int)} {op a b : Int} (h1 : (vconst first K a).2 = true) (h2 : (vconst first K b).2 = true) (h3 : ((wapp op (vconst first K a).1 (vconst first K b).1).2 == 0) = true) : vapply first K op a b = vnum first K [1, (wapp op (vconst first K a).1 (vconst first K b).1).1, 0, 0] := by
  unfold vapply; rw [h1, h2, h3]; rfl
theorem vapply_o1 {first : Int} {K : List (List Int)} {op a b : Int} (h1 : (vconst first K a).2 = false) : vapply first K op a b = vnum first K [2, op, a, b] := by
  unfold vapply; rw [h1]; rfl
theorem vapply_o2 {first : Int} {K : List (List Int)} {op a b : Int} (h1 : (vconst first K b).2 = false) : vapply first K op a b = vnum first K [2, op, a, b] := by
  unfold vapply; rw [h1, Bool.and_false]; rfl
theorem vapply_o3 {first : Int} {K : List (List Int)} {op a b : Int} (h3 : ((wapp op (vconst first K a).1 (vconst first K b).1).2 == 0) = false) : vapply first K op a b = vnum first K [2, op, a, b] := by
  unfold vapply; rw [h3, Bool.and_false]; rfl
structure TacV (t : Tac) (R : Nat) : Prop where
  d : setsOp t.op = true → 0 ≤ t.d ∧ t.d < R
  a : use1 t.op = true ∨ use2 t.op = true → 0 ≤ t.a ∧ t.a < R
  b : use2 t.op = true → 0 ≤ t.b ∧ t.b < R
  n : isW t.n
def valC (l : List Int) : List (List AV) := l.map fun n => [AV.int .i64 n]
theorem valC_len (l : List Int) : (valC l).length = l.length := List.length_map ..
theorem valC_one (l : List Int) : ∀ cs ∈ valC l, cs.length = 1 := fun cs hc => by
  obtain ⟨n, _, rfl⟩ := List.mem_map.1 hc
  rfl
theorem valC_get {l : List Int} {z : Int} (h : 0 ≤ z ∧ z < l.length) : (valC l)[z.toNat]? = some [AV.int .i64 (rget l z)] := by
  unfold valC rget
  rw [List.getElem?_map, List.getElem?_eq_getElem (by omega)]
  rfl
theorem valC_set (l : List Int) (z v : Int) : valC (rset l z v) = (valC l).set z.toNat [AV.int .i64 v] := by
  unfold valC rset
  rw [List.map_set]
theorem valC_vaA (b : Nat) (l : List Int) (z v : Int) : vaA b (valC (rset l z v)) = vaA b (valC l) := vaA_len (by rw [valC_len, valC_len, rset_length])
theorem bin_yes {first : Int} {w : VW} {t : Tac} (h : vrisky first w t = true) : w.bin first t = ⟨(vapply first w.K t.k (rget w.vals t.a) (rget w.vals t.b)).2, rset w.vals t.d (vapply first w.K t.k (rget w.vals t.a) (rget w.vals t.b)).1, w.effs ++ [[1, t.k, rget w.vals t.a, rget w.vals t.b, 0, 0]], w.time⟩ := by
  unfold VW.bin VW.div VW.put; rw [h]; rfl
theorem bin_no {first : Int} {w : VW} {t : Tac} (h : vrisky first w t = false) : w.bin first t = ⟨(vapply first w.K t.k (rget w.vals t.a) (rget w.vals t.b)).2, rset w.vals t.d (vapply first w.K t.k (rget w.vals t.a) (rget w.vals t.b)).1, w.effs, w.time⟩ := by
  unfold VW.bin VW.div VW.put; rw [h]; rfl
theorem VOk.at {first : Int} {R m : Nat} {w : VW} (h : VOk first R m w) {z : Int} (hz : 0 ≤ z ∧ z < R) : 0 ≤ z ∧ z < w.vals.length ∧ z < ((valC w.vals).length : Int) ∧ 0 ≤ rget w.vals z ∧ rget w.vals z < first + w.K.length := by
  have h1 := h.vl
  have h2 := h.v _ (rget_in (z := z) (by rw [h1]; exact hz))
  rw [valC_len, h1]
  exact ⟨hz.1, hz.2, hz.2, h2.1, h2.2⟩
theorem vstep1 {first : Int} {w : VW} {t : Tac} (ho : t.op = 1) : w.step first t = w.put t.d (vnum first w.K [1, t.n, 0, 0]) := by
  unfold VW.step
  rw [ho]; rfl
theorem vstep2 {first : Int} {w : VW} {t : Tac} (ho : t.op = 2) : w.step first t = { w with vals := rset w.vals t.d (rget w.vals t.a) } := by
  unfold VW.step
  rw [ho]; rfl
theorem vstep3 {first : Int} {w : VW} {t : Tac} (ho : t.op = 3) : w.step first t = w.bin first t := by
  unfold VW.step
  rw [ho]; rfl
theorem vstep4 {first : Int} {w : VW} {t : Tac} (ho : t.op = 4) : w.step first t = w.put t.d (vnum first w.K [3, t.base, w.time, 0]) := by
  unfold VW.step
  rw [ho]; rfl
theorem vstep5 {first : Int} {w : VW} {t : Tac} (ho : t.op = 5) : w.step first t = (w.hap t (rget w.vals t.a) 0).tick := by
  unfold VW.step
  rw [ho]; rfl
theorem vstep6 {first : Int} {w : VW} {t : Tac} (ho : t.op = 6) : w.step first t = (w.hap t (rget w.vals t.a) 0).put t.d (vunk first (w.hap t (rget w.vals t.a) 0)) := by
  unfold VW.step
  rw [ho]; rfl
theorem vstep7 {first : Int} {w : VW} {t : Tac} (ho : t.op = 7) : w.step first t = (w.hap t (rget w.vals t.a) (rget w.vals t.b)).tick := by
  unfold VW.step
  rw [ho]; rfl
theorem vstep8 {first : Int} {w : VW} {t : Tac} (ho : t.op = 8) : w.step first t = (w.hap t 0 0).put t.d (vunk first (w.hap t 0 0)) := by
  unfold VW.step
  rw [ho]; rfl
theorem vstep9 {first : Int} {w : VW} {t : Tac} (ho : t.op = 9) : w.step first t = w.hap t (rget w.vals t.a) 0 := by
  unfold VW.step
  rw [ho]; rfl
theorem vstep10 {first : Int} {w : VW} {t : Tac} (ho : t.op = 10) : w.step first t = (w.hap t 0 0).tick := by
  unfold VW.step
  rw [ho]; rfl
theorem vstep0 {first : Int} {w : VW} {t : Tac} (h1 : (t.op == 1) = false) (h2 : (t.op == 2) = false) (h3 : (t.op == 3) = false) (h4 : (t.op == 4) = false) (h5 : (t.op == 5) = false) (h6 : (t.op == 6) = false) (h7 : (t.op == 7) = false) (h8 : (t.op == 8) = false) (h9 : (t.op == 9) = false) (h10 : (t.op == 10) = false) : w.step first t = w := by
  unfold VW.step
  rw [h1, h2, h3, h4, h5, h6, h7, h8, h9, h10]; rfl
theorem timeZ {x : Int} (h : 0 ≤ x ∧ x ≤ 90000) : evalBin .add (.int .i64 x) (.int .i64 1) = some (.int .i64 (x + 1)) := addZ (by omega) (by omega) rfl
def fillI (R k : Nat) (f : Nat → Int) : List Int := (List.range k).map f ++ List.replicate (R - k) 0
theorem fillI_len {R k : Nat} (f : Nat → Int) (h : k ≤ R) : (fillI R k f).length = R := by simp [fillI]; omega
theorem valC_fill0 (R : Nat) (f : Nat → Int) : valC (fillI R 0 f) = List.replicate R [AV.int .i64 0] := by
  simp [fillI, valC]
theorem fillI_set {R k : Nat} (f : Nat → Int) (h : k < R) : (fillI R k f).set k (f k) = fillI R (k + 1) f := by
  unfold fillI
  rw [List.set_append_right _ _ (by simp), List.range_succ, List.map_append, List.append_assoc]
  congr 1
  rw [show R - k = (R - (k + 1)) + 1 by omega, List.replicate_succ]
  simp
theorem fillI_end (R : Nat) (f : Nat → Int) : fillI R R f = (List.range R).map f := by simp [fillI]
def idsA (R : Nat) : List Int := (List.range R).map fun (v : Nat) => (v : Int)
def sideB (R : Nat) (row : List Bool) (v : Nat) : Int := bif (row[v]?).getD false then (v : Int) else ((R + v : Nat) : Int)
def idsB (R : Nat) (row : List Bool) : List Int := (List.range R).map (sideB R row)
def Cert.at' (c : Cert) (k : Int) : List Bool := (c.same[k.toNat]?).getD []
def vfold (first : Int) (l : List Tac) (w : VW) : VW := l.foldl (VW.step first) w
def vrunA (R : Nat) (old : Block) : VW := vfold (2 * R : Nat) old.ins ⟨[], idsA R, [], 0⟩
def vrunB (R : Nat) (old new : Block) (row : List Bool) : VW := vfold (2 * R : Nat) new.ins ⟨(vrunA R old).K, idsB R row, [], 0⟩
def vagree (x y : VW) (row : List Bool) : Bool := row.zipIdx.all fun p => !p.1 || rget x.vals (p.2 : Int) == rget y.vals (p.2 : Int)
def vsame (R : Nat) (old new : Block) (c : Cert) (i : Int) (next : List Int) : Bool :=
  decide ((vrunA R old).effs = (vrunB R old new (c.at' i)).effs) && ((!(old.fin == 2) || rget (vrunA R old).vals old.v == rget (vrunB R old new (c.at' i)).vals new.v) && next.all fun k => vagree (vrunA R old) (vrunB R old new (c.at' i)) (c.at' k))
theorem vfold_succ {first : Int} {l : List Tac} {w : VW} {k : Nat} {t : Tac} (h : l[k]? = some t) : vfold first (l.take (k + 1)) w = (vfold first (l.take k) w).step first t := by
  unfold vfold
  rw [take_succ_eq h, List.foldl_append]; rfl
theorem vfold_end {first : Int} {l : List Tac} {w : VW} {k : Nat} (h : l.length ≤ k) : vfold first (l.take k) w = vfold first l w := by
  rw [List.take_of_length_le h]
theorem vfold_ok {first : Int} {R m : Nat} {l : List Tac} {w : VW} (h : VOk first R m w) (hl : ∀ t ∈ l, TacV t R) : VOk first R (m + 2 * l.length) (vfold first l w) := by
  unfold vfold
  induction l generalizing w m with
  | nil => exact h
  | cons t l ih =>
    have h1 := h.step t (fun hu => (hl t (by simp)).a (.inl hu))
    have h2 := ih h1 (fun u hu => hl u (by simp [hu]))
    rw [List.length_cons, show m + 2 * (l.length + 1) = m + 2 + 2 * l.length by omega]
    exact h2
theorem vfold_okk {first : Int} {R m : Nat} {l : List Tac} {w : VW} (h : VOk first R m w) (hl : ∀ t ∈ l, TacV t R) (k : Nat) : VOk first R (m + 2 * l.length) (vfold first (l.take k) w) :=
  (vfold_ok h (l := l.take k) (fun t ht => hl t (List.mem_of_mem_take ht))).mono (by rw [List.length_take]; omega)
theorem vok_a {R : Nat} (hR : R ≤ 40000) : VOk (2 * R : Nat) R 0 ⟨[], idsA R, [], 0⟩ where
  f := by omega
  k4 := fun k hk => by simp at hk
  e6 := fun k hk => by simp at hk
  kl := Nat.le_refl _
  el := Nat.le_refl _
  tl := ⟨Int.le_refl 0, by show (0 : Int) ≤ 0; decide⟩
  vl := by simp [idsA]
  v := fun n hn => by
    simp only [idsA, List.mem_map, List.mem_range] at hn
    obtain ⟨v, hv, rfl⟩ := hn
    show 0 ≤ (v : Int) ∧ (v : Int) < ((2 * R : Nat) : Int) + 0
    omega
theorem vok_b {R m : Nat} {w : VW} (hw : VOk (2 * R : Nat) R m w) (row : List Bool) : VOk (2 * R : Nat) R m ⟨w.K, idsB R row, [], 0⟩ where
  f := hw.f
  k4 := hw.k4
  e6 := fun k hk => by simp at hk
  kl := hw.kl
  el := Nat.zero_le _
  tl := ⟨Int.le_refl 0, by show (0 : Int) ≤ m; omega⟩
  vl := by simp [idsB]
  v := fun n hn => by
    simp only [idsB, List.mem_map, List.mem_range] at hn
    obtain ⟨v, hv, rfl⟩ := hn
    show 0 ≤ sideB R row v ∧ sideB R row v < ((2 * R : Nat) : Int) + (w.K.length : Int)
    unfold sideB
    cases (row[v]?).getD false <;> simp only [cond_true, cond_false] <;> omega
theorem load_arr {K : IntKind} {l : List Int} {i : TyI} (h : i.k.isAgg = true) (hs : i.size = l.length) : loadAV i (arrAV K l) = some (.agg (arrAV K l)) := by
  unfold loadAV
  rw [h, hs]
  have e : (arrAV K l).length = l.length := by simp [arrAV]
  rw [← e, show Nat.ble (arrAV K l).length (arrAV K l).length = true by rw [Nat.ble_eq]; exact Nat.le_refl _, List.take_length]
  rfl
theorem arr_get {K : IntKind} {L : List (List Int)} {k : Nat} {x : List Int} (h : L[k]? = some x) : (L.map (arrAV K))[((k : Nat) : Int).toNat]? = some (arrAV K x) := by
  rw [Int.toNat_natCast, List.getElem?_map, h]; rfl
theorem take_eq_succ {α : Type} {l l' : List α} {k : Nat} {x : α} (h : l.take k = l'.take k) (hx : l[k]? = some x) (hy : l'[k]? = some x) : l.take (k + 1) = l'.take (k + 1) := by
  rw [take_succ_eq hx, take_succ_eq hy, h]
end Go.Proofs.YtbbfelelocccmaaGreat.Sv
