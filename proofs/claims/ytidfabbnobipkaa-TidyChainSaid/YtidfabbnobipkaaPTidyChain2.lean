/-
  ROWS THAT ARE NEEDED NO MORE ARE FORGOTTEN, AND THEIR NUMBERS ARE FREE AGAIN (for loops that make rows in each round): own work, over no program.
  A CALL THAT LOOKS AT ROWS OF THE CALLER, AND MAY CHANGE THEM: own work, over no program.
  MAPS WHOSE KEYS ARE NUMBERS: own work, over no program.
  MORE OPERATIONS: truth values compared; a number turned: own work, over no program.
  FROM WHAT ARGUMENTS READ AS TO ABSTRACT VALUES; AND FROM A CONTRACT OF PLAIN DATA TO A ROW: own work, over no program.
  THE TYPES OF THE PROGRAM, WRITTEN OUT: printed by a program of our own.
  THE PROGRAM'S DATA, AS LEAN'S, AND AS ABSTRACT VALUES: own work.
  WHAT THE DOCUMENT'S CHAPTERS SAY OF PROGRAMS IN BLOCKS, IN PLAIN LEAN: own work, over no program.
  WORDS' OPERATIONS, IN PLAIN LEAN: own work, over no program.
  FOLDING, IN PLAIN LEAN; maps of words: own work, over no program.
  PROGRAMS IN BLOCKS AS ARGUMENTS: own work, over no program.
  WHAT THE ROWS OF THIS SEAT HAVE IN COMMON: facts of the program, and how its types read: own work.
  FUNCTION VALUES; SLICES THAT ARE NOT AT THEIR ROW'S END; CHANGES IN THOUGHT OF WHAT ROWS HOLD: own work, over no program.
  SLICES CUT TO WHAT THEY HOLD, AND WHAT IS PUT BEHIND THEM; weaker values in thought: own work, over no program.
  WHAT FOLLOWS BLOCKS, AND WHAT IS REACHED, IN PLAIN LEAN: own work, over no program.
  SMALL LEMMAS FOR THE WALKS OF FLOW: own work, over no program.
  TIDYING, AS THE PROGRAM DOES IT, IN PLAIN LEAN: own work, over no program.
  SMALL LEMMAS FOR THE WALKS OF TIDY: own work, over no program.
  WHETHER PATHS HOLD, AS THE PROGRAM TELLS IT, IN PLAIN LEAN: own work, over no program.
  SMALL LEMMAS FOR THE WALKS OF tidy.Check: own work, over no program.
  THE LAWS OF LAYER 33, IN PLAIN LEAN: own work, over no program.
  THE DOCUMENT'S WAY TO HOLD PATHS AGAINST A FUNCTION, IN PLAIN LEAN: own work, over no program.
  WHAT THE LAWS' GUARDS SAY, IN PLAIN LEAN: own work, over no program.
  PATHS ARE PUT TOGETHER, IN PLAIN LEAN: own work, over no program.
  WHAT IS TIDIED HOLDS, IN PLAIN LEAN (1): what is reached is closed; ways are counted: own work, over no program.
  WHAT IS TIDIED HOLDS, IN PLAIN LEAN (2): own work, over no program.
  WHAT IS REACHED IS JUST WHAT CAN BE REACHED, IN PLAIN LEAN: own work, over no program.
  WHAT TIDYING LEAVES, IN PLAIN LEAN: own work, over no program.
  NOTHING IS LEFT TO JOIN; TIDIED AGAIN IT IS AS IT IS, IN PLAIN LEAN: own work, over no program.
  WHAT THE WALKS OF TidyMost AND TidyTwice ASK, IN PLAIN LEAN: own work, over no program.
  WORDS BIT BY BIT, AS THE DOCUMENT'S ANSWER HAS THEM, IN PLAIN LEAN: own work, over no program.
  SMALL RULES FOR THE DOCUMENT'S WORDS: own work, over no program.
  THE LAWS OF FOLDING, IN PLAIN LEAN: own work, over no program.
  THE LAW FoldKnown, IN PLAIN LEAN: own work, over no program.
  THE DOCUMENT'S WORDS ARE THE PROGRAM'S, IN PLAIN LEAN: own work, over no program.
  FOLDING INSTRUCTION BY INSTRUCTION, WITH TWO ROWS IN PLACE OF A MAP, IN PLAIN LEAN: own work, over no program.
  BYTES TO A STRING: own work, over no program.
  THE DOCUMENT'S MACHINE OF BLOCKS, IN PLAIN LEAN: own work, over no program.
  THE MACHINE'S LOOPS: what holds at each round, in plain Lean: own work, over no program.
  RUNS THAT HAVE DONE FEWER STEPS END ALIKE, IN PLAIN LEAN: own work, over no program.
  WHATEVER HOLDS MEANS THE SAME, IN PLAIN LEAN: own work, over no program.
  WHAT THE WALK OF TidyTrue ASKS, IN PLAIN LEAN: own work, over no program.
  WHAT THE WALK OF TidyMeans ASKS, IN PLAIN LEAN: own work, over no program.
  WHAT IS REACHED, BREADTH FIRST, IN PLAIN LEAN: own work, over no program.
  THE DOCUMENT'S TIDYING COMES TO THE SAME, IN PLAIN LEAN: own work, over no program.
  BLOCKS THAT JUMP FROM ONE TO THE NEXT ARE ONE BLOCK, IN PLAIN LEAN: own work, over no program.
  QUEUES: x[l:] of a row, and what is put behind it; which place that takes isn't known beforehand: own work, over no program.
  THE QUEUE AS IT LIES IN MEMORY, IN PLAIN LEAN: own work, over no program.
  WHAT THE LAWS ON TIDIED FUNCTIONS ASK FOR, IN PLAIN LEAN: own work, over no program.
-/
import Derived.Test.YtidfabbnobipkaaPTidyChain1
import Derived.MapKept
import Derived.ProofKit
import Derived.OpenShut
import Derived.SizedLaws
import Derived.Test.YtidfabbnobipkaaProg
import Derived.KernelRfl
import Derived.Test.YtidfabbnobipkaaRows
import Derived.Laws.BytesString
namespace Go.Proofs.Ytidfabbnobipkaa.Sv
open Go
set_option linter.unusedVariables false
set_option linter.unusedSimpArgs false

/-- Its rows are among k's (and it has no parts). -/
def AV.flat (k : Nat → Bool) : AV → Bool
  | .ref b _ _ _ => k b
  | .ptr b _ _ _ => k b
  | .map b => k b
  | .agg _ => false
  | .tup _ => false
  | .fn _ _ _ => false
  | _ => true
/-- Its rows are among k's. -/
def AV.avoid (k : Nat → Bool) : AV → Bool
  | .agg cs => cs.all (AV.flat k)
  | .tup cs => cs.all (AV.flat k)
  | .fn _ xs cs => xs.all (AV.flat k) && cs.all (AV.flat k)
  | x => x.flat k
def AObj.avoid (k : Nat → Bool) : AObj → Bool
  | .row true _ _ => true
  | .row false _ es => es.all (fun cs => cs.all (AV.avoid k))
  | _ => true

def lcut (ι : Lay) (k : Nat → Bool) : Lay := fun b => bif k b then ι b else none
theorem lcut_lt {ι : Lay} {k : Nat → Bool} {b : Nat} (h : k b = true) : lcut ι k b = ι b := by simp [lcut, h]
theorem lcut_some {ι : Lay} {k : Nat → Bool} {b : Nat} {r : Ent} (h : lcut ι k b = some r) : ι b = some r := by
  unfold lcut at h
  cases e : k b with
  | true => rw [e] at h; exact h
  | false => rw [e] at h; cases h

theorem flat_rel {H : Know} {ι : Lay} {k : Nat → Bool} {x : AV} {v : Value} (h : Rel H ι x v) (hf : x.flat k = true) : Rel H (lcut ι k) x v := by
  cases h with
  | bool => exact .bool _ _
  | int => exact .int _ _ _
  | str => exact .str _ _
  | nil => exact .nil _
  | nilp => exact .nilp _
  | lst0 _ ex a cap hex hcap hn hsp => exact .lst0 _ ex a cap hex hcap hn hsp
  | lst _ ex es b off cap sz c vals hne hb hsz hv hr hc1 hex hcap hmax => exact .lst _ ex es b off cap sz c vals hne hb hsz hv hr hc1 hex hcap hmax
  | loc _ cs b off c vals hb hv hr hc1 => exact .loc _ cs b off c vals hb hv hr hc1
  | refL _ b n off len cap r hr hn hlen hlc hcap hmax => exact .refL _ b n off len cap r (by rw [lcut_lt hf]; exact hr) hn hlen hlc hcap hmax
  | ref0 _ b r a hr hn hc hsp => exact .ref0 _ b r a (by rw [lcut_lt hf]; exact hr) hn hc hsp
  | refS _ b n off len r a cap hr hn => exact .refS _ b n off len r a cap (by rw [lcut_lt hf]; exact hr) hn
  | ptrL _ b n i o r hr hn => exact .ptrL _ b n i o r (by rw [lcut_lt hf]; exact hr) hn
  | ptrS _ b n i o r a hr hn => exact .ptrS _ b n i o r a (by rw [lcut_lt hf]; exact hr) hn
  | map _ b r hr hn => exact .map _ b r (by rw [lcut_lt hf]; exact hr) hn
  | agg => cases hf
  | tup => cases hf
  | fn => cases hf

theorem all_get {α : Type} {l : List α} {p : α → Bool} (h : l.all p = true) {j : Nat} {x : α} (hj : l[j]? = some x) : p x = true :=
  List.all_eq_true.1 h x (List.mem_of_getElem? hj)

theorem avoid_rel {H : Know} {ι : Lay} {k : Nat → Bool} {x : AV} {v : Value} (h : Rel H ι x v) (hf : x.avoid k = true) : Rel H (lcut ι k) x v := by
  cases h with
  | agg _ cs vs hl hr => exact .agg _ cs vs hl fun j x v h1 h2 => flat_rel (hr j x v h1 h2) (all_get hf h1)
  | tup _ cs vs hl hr => exact .tup _ cs vs hl fun j x v h1 h2 => flat_rel (hr j x v h1 h2) (all_get hf h1)
  | fn _ f xs cs us vs hx hl h1 h2 =>
    simp only [AV.avoid, Bool.and_eq_true] at hf
    exact .fn _ f xs cs us vs hx hl (fun j x v g1 g2 => flat_rel (h1 j x v g1 g2) (all_get hf.1 g1)) (fun j x v g1 g2 => flat_rel (h2 j x v g1 g2) (all_get hf.2 g1))
  | bool => exact .bool _ _
  | int => exact .int _ _ _
  | str => exact .str _ _
  | nil => exact .nil _
  | nilp => exact .nilp _
  | lst0 _ ex a cap hex hcap hn hsp => exact .lst0 _ ex a cap hex hcap hn hsp
  | lst _ ex es b off cap sz c vals hne hb hsz hv hr hc1 hex hcap hmax => exact .lst _ ex es b off cap sz c vals hne hb hsz hv hr hc1 hex hcap hmax
  | loc _ cs b off c vals hb hv hr hc1 => exact .loc _ cs b off c vals hb hv hr hc1
  | refL _ b n off len cap r hr hn hlen hlc hcap hmax => exact flat_rel (.refL _ b n off len cap r hr hn hlen hlc hcap hmax) hf
  | ref0 _ b r a hr hn hc hsp => exact flat_rel (.ref0 _ b r a hr hn hc hsp) hf
  | refS _ b n off len r a cap hr hn => exact flat_rel (.refS _ b n off len r a cap hr hn) hf
  | ptrL _ b n i o r hr hn => exact flat_rel (.ptrL _ b n i o r hr hn) hf
  | ptrS _ b n i o r a hr hn => exact flat_rel (.ptrS _ b n i o r a hr hn) hf
  | map _ b r hr hn => exact flat_rel (.map _ b r hr hn) hf

theorem objOk_cut {H : Know} {ι : Lay} {w : World} {r : Ent} {o : AObj} {k : Nat → Bool} (h : ObjOk H ι w r o) (ha : o.avoid k = true) : ObjOk H (lcut ι k) w r o := by
  cases o with
  | free => trivial
  | map kvs => exact h
  | row p sz es =>
    obtain ⟨h1, h2, h3, h4, h5, h6⟩ := h
    refine ⟨h1, h2, h3, h4, h5, fun hs => ?_⟩
    obtain ⟨c, T, c1, c2, c3, c4⟩ := h6 hs
    refine ⟨c, T, c1, c2, c3, ?_⟩
    cases p with
    | true => exact c4
    | false =>
      intro i cs j x e1 e2
      obtain ⟨v, v1, v2, v3⟩ := c4 i cs j x e1 e2
      exact ⟨v, v1, avoid_rel v2 (all_get (all_get ha e1) e2), v3⟩

/-- the numbers below k -/
abbrev below (k : Nat) : Nat → Bool := fun b => Nat.blt b k

/-- nil is a list of nothing -/
theorem Ghost.empty {n : Nat} {e : AEnv} {h : AHeap} (t : Nat) (ht : e t = some .nil) : Ghost ⟨n, e, h⟩ ⟨n, eput e t (.lst false []), h⟩ := fun H ι a w hs =>
  ⟨H, ι, ⟨hs.n, hs.d, fun u y hy => by
    by_cases hu : u = t
    · subst hu
      simp only [eput_same, Option.some.injEq] at hy
      subst hy
      obtain ⟨v, h1, h2⟩ := hs.env u _ ht
      exact ⟨v, h1, by rw [h2.nil_inv]; exact .lst0 _ _ _ _ (fun h => by cases h) (Nat.zero_le _) (fun _ => rfl) trivial⟩
    · simp only [eput_ne _ _ hu] at hy
      exact hs.env u y hy, hs.heap⟩, Step.refl _ _ _ _⟩

def EDrop (k : Nat) (e' e : AEnv) : Prop := ∀ t x, e' t = some x → e t = some x ∧ x.avoid (below k) = true
def HDrop (k : Nat) (h' h : AHeap) : Prop := ∀ b o, h' b = some o → (h b = some o ∧ (o.alive = true → Nat.blt b k = true ∧ o.avoid (below k) = true)) ∨ (o = .free ∧ Nat.blt b k = false)

theorem EDrop.new (k : Nat) (e : AEnv) : EDrop k eNew e := fun _ _ h => by cases h
theorem EDrop.put {k : Nat} {e' e : AEnv} {t : Nat} {v : AV} (h : EDrop k e' e) (hv : e t = some v) (ha : v.avoid (below k) = true) : EDrop k (eput e' t v) e := fun u x hx => by
  by_cases hu : u = t
  · subst hu; rw [eput_same] at hx; cases hx; exact ⟨hv, ha⟩
  · rw [eput_ne _ _ hu] at hx; exact h u x hx
theorem HDrop.none (k : Nat) (h : AHeap) : HDrop k hNone h := fun _ _ h => by cases h
theorem HDrop.put {k : Nat} {h' h : AHeap} {b : Nat} {o : AObj} (hh : HDrop k h' h) (ho : h b = some o) (hb : Nat.blt b k = true) (ha : o.avoid (below k) = true) : HDrop k (hput h' b o) h := fun c x hx => by
  by_cases hc : c = b
  · subst hc; rw [hput_same] at hx; cases hx; exact .inl ⟨ho, fun _ => ⟨hb, ha⟩⟩
  · rw [hput_ne _ _ hc] at hx; exact hh c x hx
theorem HDrop.tail (k : Nat) (h : AHeap) : HDrop k (hFrom k) h := fun b o hx => by
  have hk : Nat.blt b k = false := by
    cases e : Nat.blt b k with
    | false => rfl
    | true => simp only [hFrom, e, cond_true] at hx; cases hx
  have ho : o = .free := by simp only [hFrom, hk, cond_false, Option.some.injEq] at hx; exact hx.symm
  exact .inr ⟨ho, hk⟩

/-- s'' is s' without what lies from k on. -/
structure Drop (k : Nat) (s'' s' : AState) : Prop where
  n : s''.n = s'.n
  e : EDrop k s''.env s'.env
  h : HDrop k s''.h s'.h
theorem Drop.mk' {k n : Nat} {e' e : AEnv} {h' h : AHeap} (h1 : EDrop k e' e) (h2 : HDrop k h' h) : Drop k ⟨n, e', h'⟩ ⟨n, e, h⟩ := ⟨rfl, h1, h2⟩

theorem Sim.cut {H : Know} {ι : Lay} {s s' : AState} {a : Act} {w : World} {k : Nat} (hs : Sim H ι s a w) (hd : Drop k s' s) : Sim H (lcut ι (below k)) s' a w := by
  have hal : ∀ b o, s'.h b = some o → o.alive = true → s.h b = some o ∧ Nat.blt b k = true ∧ o.avoid (below k) = true := fun b o h1 h2 => by
    rcases hd.h b o h1 with ⟨g1, g2⟩ | ⟨g1, _⟩
    · exact ⟨g1, g2 h2⟩
    · subst g1; cases h2
  refine ⟨hs.n.trans hd.n.symm, hs.d, fun t x hx => ?_, ⟨hs.heap.know, fun b hb => ?_, fun b o h1 h2 => ?_, fun b b' o o' r r' h1 h2 h3 h4 h5 h6 => ?_⟩⟩
  · obtain ⟨g1, g2⟩ := hd.e t x hx
    obtain ⟨v, v1, v2⟩ := hs.env t x g1
    exact ⟨v, v1, avoid_rel v2 g2⟩
  · rcases hd.h b _ hb with ⟨g1, _⟩ | ⟨_, g2⟩
    · have := hs.heap.free b g1
      unfold lcut; rw [this]; cases below k b <;> rfl
    · unfold lcut; rw [show below k b = false from g2]; rfl
  · obtain ⟨g1, g2, g3⟩ := hal b o h1 h2
    obtain ⟨r, r1, r2, r3⟩ := hs.heap.obj b o g1 h2
    exact ⟨r, by rw [lcut_lt (k := below k) g2]; exact r1, objOk_cut r2 g3, r3⟩
  · exact hs.heap.inj b b' o o' r r' (hal b o h1 h2).1 h2 (hal b' o' h3 h4).1 h4 (lcut_some h5) (lcut_some h6)

theorem Step.cut {H : Know} {ι : Lay} {h h1 h' : AHeap} {w : World} {H' : Know} {ι' : Lay} {w' : World} {k : Nat} (hr : HeapRel H ι h w) (hf : ∀ b, Nat.blt b k = false → h b = some .free)
    (st : Step H ι h w H' ι' h1 w') (hd : HDrop k h' h1) : Step H ι h w H' (lcut ι' (below k)) h' w' where
  size := st.size
  os := st.os
  out := st.out
  keep := st.keep
  kle := st.kle
  knew := st.knew
  lle := fun b r e => by
    cases hb : Nat.blt b k with
    | false => rw [hr.free b (hf b hb)] at e; cases e
    | true => rw [lcut_lt (k := below k) hb]; exact st.lle b r e
  lframe := fun b e => by
    cases hb : Nat.blt b k with
    | false => rw [hf b hb] at e; cases e
    | true => rw [lcut_lt (k := below k) hb]; exact st.lframe b e
  newrb := fun b r' e => st.newrb b r' (lcut_some e)
  dom := fun b e => by
    have e1 := st.dom b e
    cases e2 : h' b with
    | none => rfl
    | some o =>
      rcases hd b o e2 with ⟨g, _⟩ | ⟨_, g⟩
      · rw [g] at e1; cases e1
      · rw [hf b g] at e; cases e

section
variable {P : Program} {s : AState} {Q : Exit → AState → Prop}

theorem AGo.cut {c : Code} {K : AState → Prop} (k : Nat) (hf : ∀ b, Nat.blt b k = false → s.h b = some .free) (h : AGo P c s (Then (fun s1 => ∃ s2, Drop k s2 s1 ∧ K s2) Q)) : AGo P c s (Then K Q) := fun H ι a w hs =>
  wp_mono (h H ι a w hs) fun e a' w' hp => by
    obtain ⟨s', H', ι', q, r, t⟩ := hp
    cases e with
    | normal =>
      obtain ⟨s2, d, k2⟩ := q
      exact ⟨s2, H', _, k2, r.cut d, t.cut hs.heap hf d.h⟩
    | _ => exact ⟨s', H', ι', q, r, t⟩

theorem hFrom_free {k b : Nat} (h : Nat.blt b k = false) : hFrom k b = some .free := by simp only [hFrom, h, cond_false]
theorem hput_free {h : AHeap} {k c : Nat} {o : AObj} (hf : ∀ b, Nat.blt b k = false → h b = some .free) (hc : Nat.blt c k = true) : ∀ b, Nat.blt b k = false → hput h c o b = some .free := fun b hb => by
  have hne : b ≠ c := fun e => by subst e; rw [hc] at hb; cases hb
  rw [hput_ne _ _ hne]; exact hf b hb

/-- A loop: 'inv g' is all that is known at a round's head, F g what holds of g; what a round made is forgotten. -/
theorem AGo.loopD {γ : Type} {c : Code} (k : Nat) (inv : γ → AState) (F : γ → Prop) (μ : γ → Nat) (g0 : γ) (h0 : Sub (inv g0) s) (hF : F g0) (hf : ∀ g b, Nat.blt b k = false → (inv g).h b = some .free)
    (round : ∀ g, F g → AGo P c (inv g) (Then (fun s' => ∃ g', Drop k (inv g') s' ∧ F g' ∧ μ g' < μ g) Q)) : AGo P (.loop c) s Q :=
  AGo.loopI inv F μ g0 h0 hF fun g hg => AGo.cut k (hf g) ((round g hg).mono fun e s'' hq => by
    cases e with
    | normal => obtain ⟨g', h1, h2, h3⟩ := hq; exact ⟨inv g', h1, g', Sub.refl _, h2, h3⟩
    | _ => exact hq)
end
end Go.Proofs.Ytidfabbnobipkaa.Sv

namespace Go.Proofs.Ytidfabbnobipkaa.Sv
open Go
set_option linter.unusedVariables false
set_option linter.unusedSimpArgs false

def mem (L : List Nat) : Nat → Bool := fun b => L.any (fun c => Nat.beq b c)
theorem mem_iff {L : List Nat} {b : Nat} : mem L b = true ↔ b ∈ L := by
  unfold mem
  rw [List.any_eq_true]
  constructor
  · rintro ⟨c, h1, h2⟩
    rw [Nat.eq_of_beq_eq_true h2]; exact h1
  · exact fun h => ⟨b, h, Nat.beq_refl b⟩

/-- The heap that a call sees. -/
def hres (h : AHeap) (L : List Nat) : AHeap := fun b => bif mem L b then h b else some .free
theorem hres_nil (h : AHeap) : hres h [] = hNew := rfl
theorem hres_cons {h h' : AHeap} {L : List Nat} {b : Nat} {o : AObj} (ho : h b = some o) (hr : hres h L = h') : hres h (b :: L) = hput h' b o := by
  subst hr
  funext x
  by_cases hx : x = b
  · subst hx
    rw [hput_same]
    have : mem (x :: L) x = true := mem_iff.2 (by simp)
    simp only [hres, this, cond_true]; exact ho
  · rw [hput_ne _ _ hx]
    have : mem (b :: L) x = mem L x := by
      simp only [mem, List.any_cons, beq_false_of_ne hx, Bool.false_or]
    simp only [hres, this]

def AllL : List Nat → (Nat → Prop) → Prop
  | [], _ => True
  | b :: L, p => p b ∧ AllL L p
theorem AllL.get {p : Nat → Prop} : ∀ {L : List Nat}, AllL L p → ∀ b ∈ L, p b
  | b :: L, h, c, hc => by
    rcases List.mem_cons.1 hc with rfl | hc
    · exact h.1
    · exact AllL.get h.2 c hc

/-- the layout afterwards -/
def lmix (ι ι' : Lay) (L : List Nat) : Lay := fun b => bif mem L b then ι' b else ι b

theorem hputs_not {W : List (Nat × AObj)} {b : Nat} : ∀ {h : AHeap}, (∀ p ∈ W, p.1 ≠ b) → hputs h W b = h b := by
  induction W with
  | nil => exact fun _ => rfl
  | cons p W ih =>
    intro h hp
    show hputs (hput h p.1 p.2) W b = h b
    rw [ih (fun q hq => hp q (List.mem_cons_of_mem _ hq)), hput_ne _ _ (fun e => hp p List.mem_cons_self e.symm)]

theorem hputs_agree {W : List (Nat × AObj)} {b : Nat} : ∀ {h h' : AHeap}, h b = h' b → hputs h W b = hputs h' W b := by
  induction W with
  | nil => exact fun h => h
  | cons p W ih =>
    intro h h' hh
    refine ih ?_
    by_cases hb : b = p.1
    · subst hb; rw [hput_same, hput_same]
    · rw [hput_ne _ _ hb, hput_ne _ _ hb, hh]

theorem call_mix {H : Know} {ι : Lay} {h : AHeap} {w : World} {L : List Nat} {W : List (Nat × AObj)} {H' : Know} {ι' : Lay} {h' : AHeap} {w' : World} (hr : HeapRel H ι h w)
    (hL : ∀ b ∈ L, ∃ o, h b = some o ∧ o.avoid (mem L) = true) (hW : ∀ p ∈ W, p.1 ∈ L)
    (hk : ∀ b ∈ L, ∃ o, h' b = some o ∧ hputs h W b = some o ∧ o.avoid (mem L) = true)
    (hr' : HeapRel H' ι' h' w') (hst : Step H (lcut ι (mem L)) (hres h L) w H' ι' h' w') :
    HeapRel H' (lmix ι ι' L) (hputs h W) w' ∧ Step H ι h w H' (lmix ι ι' L) (hputs h W) w' := by
  have mT : ∀ b, b ∈ L → lmix ι ι' L b = ι' b := fun b hb => by simp only [lmix, mem_iff.2 hb, cond_true]
  have mF : ∀ b, b ∉ L → lmix ι ι' L b = ι b := fun b hb => by
    have : mem L b = false := by cases e : mem L b with | false => rfl | true => exact absurd (mem_iff.1 e) hb
    simp only [lmix, this, cond_false]
  have cT : ∀ b, b ∈ L → lcut ι (mem L) b = ι b := fun b hb => lcut_lt (mem_iff.2 hb)
  have rT : ∀ b, b ∈ L → hres h L b = h b := fun b hb => by simp only [hres, mem_iff.2 hb, cond_true]
  have rF : ∀ b, b ∉ L → hres h L b = some .free := fun b hb => by
    have : mem L b = false := by cases e : mem L b with | false => rfl | true => exact absurd (mem_iff.1 e) hb
    simp only [hres, this, cond_false]
  have wF : ∀ b, b ∉ L → hputs h W b = h b := fun b hb => hputs_not fun p hp e => hb (e ▸ hW p hp)
  have own : ∀ rb, Owned (hres h L) (lcut ι (mem L)) rb → Owned h ι rb := by
    rintro rb ⟨b, o, r, h1, h2, h3, h4, h5⟩
    by_cases hb : b ∈ L
    · exact ⟨b, o, r, by rw [← rT b hb]; exact h1, h2, lcut_some h3, h4, h5⟩
    · rw [rF b hb] at h1; cases h1; cases h2
  -- rows that the call didn't see are none of its
  have apart : ∀ b o r, b ∉ L → h b = some o → o.alive = true → ι b = some r → r.solid → ¬ Owned (hres h L) (lcut ι (mem L)) r.rb := by
    rintro b o r hb h1 h2 h3 h4 ⟨b', o', r', g1, g2, g3, g4, g5⟩
    by_cases hb' : b' ∈ L
    · exact hr.inj b b' o o' r r' h1 h2 (by rw [← rT b' hb']; exact g1) g2 h3 (lcut_some g3) h4 g4 (fun e => hb (e ▸ hb')) g5.symm
    · rw [rF b' hb'] at g1; cases g1; cases g2
  have lle : LLe ι (lmix ι ι' L) := fun b r e => by
    by_cases hb : b ∈ L
    · rw [mT b hb]; exact hst.lle b r (by rw [cT b hb]; exact e)
    · rw [mF b hb]; exact ⟨r, e, .inl rfl⟩
  have lle' : LLe (lcut ι' (mem L)) (lmix ι ι' L) := fun b r e => by
    by_cases hb : b ∈ L
    · rw [mT b hb]; exact ⟨r, lcut_some e, .inl rfl⟩
    · have : mem L b = false := by cases e : mem L b with | false => rfl | true => exact absurd (mem_iff.1 e) hb
      simp only [lcut, this, cond_false] at e; cases e
  have blk : ∀ b o r, b ∉ L → h b = some o → o.alive = true → ι b = some r → r.solid → w'.heap[r.rb]? = w.heap[r.rb]? := fun b o r hb h1 h2 h3 h4 =>
    hst.keep r.rb (hr.lt ⟨b, o, r, h1, h2, h3, h4, rfl⟩) (apart b o r hb h1 h2 h3 h4)
  have noK : ∀ b o r, b ∉ L → h b = some o → o.alive = true → ι b = some r → r.solid → H r.rb = none → H' r.rb = none := fun b o r hb h1 h2 h3 h4 h5 => by
    cases e : H' r.rb with
    | none => rfl
    | some c =>
      rcases hst.knew r.rb (by rw [e]; simp) with g | g | g
      · exact absurd h5 g
      · have := hr.lt ⟨b, o, r, h1, h2, h3, h4, rfl⟩; omega
      · exact absurd g (apart b o r hb h1 h2 h3 h4)
  -- a row of the call's, afterwards: not one of those that it didn't see
  have apart' : ∀ b b' o r r', b ∉ L → b' ∈ L → h b = some o → o.alive = true → ι b = some r → r.solid → ι' b' = some r' → r'.solid → r.rb ≠ r'.rb := fun b b' o r r' hb hb' h1 h2 h3 h4 g1 g2 e => by
    have alive' : ∀ r0, ι b' = some r0 → r0.solid → r0.rb = r'.rb → False := fun r0 e0 es e1 => by
      obtain ⟨o0, k1, _⟩ := hL b' hb'
      have ka : o0.alive = true := by
        cases o0 with
        | free => rw [hr.free b' k1] at e0; cases e0
        | _ => rfl
      exact hr.inj b b' o o0 r r0 h1 h2 k1 ka h3 e0 h4 es (fun e => hb (e ▸ hb')) (e.trans e1.symm)
    rcases hst.newrb b' r' g1 g2 with k | k | ⟨r0, k1, k2, k3⟩
    · exact alive' r' (lcut_some k) g2 rfl
    · have := hr.lt ⟨b, o, r, h1, h2, h3, h4, rfl⟩; omega
    · exact alive' r0 (lcut_some k1) k2 k3
  refine ⟨⟨hr'.know, fun b hb => ?_, fun b o h1 h2 => ?_, fun b b' o o' r r' h1 h2 h3 h4 h5 h6 s1 s2 hne => ?_⟩, ⟨hst.size, hst.os, hst.out, fun rb hlt hno => hst.keep rb hlt (fun h => hno (own rb h)), hst.kle, fun b hb => ?_, lle, fun b e => ?_, fun b r' e es => ?_, fun b e => ?_⟩⟩
  · by_cases hbL : b ∈ L
    · obtain ⟨o, k1, k2, _⟩ := hk b hbL
      rw [k2] at hb; cases hb
      rw [mT b hbL]; exact hr'.free b k1
    · rw [wF b hbL] at hb; rw [mF b hbL]; exact hr.free b hb
  · by_cases hbL : b ∈ L
    · obtain ⟨o', k1, k2, k3⟩ := hk b hbL
      rw [k2] at h1; cases h1
      obtain ⟨r, r1, r2, r3⟩ := hr'.obj b o k1 h2
      exact ⟨r, by rw [mT b hbL]; exact r1, (objOk_cut r2 k3).mono (KLe.refl _) lle' (fun _ => rfl), r3⟩
    · rw [wF b hbL] at h1
      obtain ⟨r, r1, r2, r3⟩ := hr.obj b o h1 h2
      exact ⟨r, by rw [mF b hbL]; exact r1, r2.mono hst.kle lle (fun hs => blk b o r hbL h1 h2 r1 hs), fun hs => noK b o r hbL h1 h2 r1 hs (r3 hs)⟩
  · by_cases hb : b ∈ L <;> by_cases hb' : b' ∈ L
    · obtain ⟨q, k1, k2, _⟩ := hk b hb
      obtain ⟨q', k1', k2', _⟩ := hk b' hb'
      rw [k2] at h1; cases h1
      rw [k2'] at h3; cases h3
      rw [mT b hb] at h5; rw [mT b' hb'] at h6
      exact hr'.inj b b' _ _ r r' k1 h2 k1' h4 h5 h6 s1 s2 hne
    · rw [wF b' hb'] at h3; rw [mF b' hb'] at h6; rw [mT b hb] at h5
      exact fun e => apart' b' b o' r' r hb' hb h3 h4 h6 s2 h5 s1 e.symm
    · rw [wF b hb] at h1; rw [mF b hb] at h5; rw [mT b' hb'] at h6
      exact apart' b b' o r r' hb hb' h1 h2 h5 s1 h6 s2
    · rw [wF b hb] at h1; rw [mF b hb] at h5; rw [wF b' hb'] at h3; rw [mF b' hb'] at h6
      exact hr.inj b b' o o' r r' h1 h2 h3 h4 h5 h6 s1 s2 hne
  · rcases hst.knew b hb with g | g | g
    · exact .inl g
    · exact .inr (.inl g)
    · exact .inr (.inr (own b g))
  · by_cases hb : b ∈ L
    · obtain ⟨o, k1, _⟩ := hL b hb; rw [k1] at e; cases e
    · exact mF b hb
  · by_cases hb : b ∈ L
    · rw [mT b hb] at e
      rcases hst.newrb b r' e es with k | k | ⟨r0, k1, k2, k3⟩
      · exact .inl (lcut_some k)
      · exact .inr (.inl k)
      · exact .inr (.inr ⟨r0, lcut_some k1, k2, k3⟩)
    · rw [mF b hb] at e; exact .inl e
  · by_cases hb : b ∈ L
    · obtain ⟨o, k1, _⟩ := hL b hb; rw [k1] at e; cases e
    · rw [wF b hb]; exact e

section
variable {P : Program} {o : Oper} {e : AEnv} {h : AHeap}

/-- A call by a contract that tells what becomes of the rows of L. -/
theorem o_call {f : FuncId} {fn : Func} {args : Array Operand} {tys : Array TypeId} {xs : List AV} {r : AV} {hc hw : AHeap} (L : List Nat) (W : List (Nat × AObj)) (ho : o.op = .call { callee := .value (.func f), args := args, argTypes := tys }) (hf : P.funcs[f]? = some fn) (hn : (fn.name == "runtime.NumGoroutine") = false) (hb : fn.body.isSome = true)
    (hx : lookAll e args.toList = some xs) (hxa : xs.all (AV.avoid (mem L)) = true) (hL : AllL L fun b => ∃ q, h b = some q ∧ q.avoid (mem L) = true) (hW : W.all (fun p => mem L p.1) = true) (hres' : hres h L = hc)
    (hk : AllL L fun b => ∃ q, hw b = some q ∧ hputs h W b = some q ∧ q.avoid (mem L) = true) (hra : r.avoid (mem L) = true)
    (hcall : ACall P f xs hc (fun r' h' => r' = r ∧ HSub hw h')) : OLoc P o e h L W (some r) := by
  intro H ι a w s Q hs g1 g2
  have hx' : lookAll s.env args.toList = some xs := by
    rw [lookAll_agree (e := e) (fun x hx => g1 x (by rw [ho]; simp [Op.operands, Call.operands]; exact .inr (by simpa using hx)))]; exact hx
  have hraa := relAll_map hs hx'
  have hra' : RelAll H (lcut ι (mem L)) xs (args.map a.eval) := ⟨hraa.1, fun j x v h1 h2 => avoid_rel (hraa.2 j x v h1 h2) (all_get hxa h1)⟩
  have hLs : ∀ b ∈ L, ∃ q, s.h b = some q ∧ q.avoid (mem L) = true := fun b hb => by rw [g2 b hb]; exact hL.get b hb
  have hres2 : hres s.h L = hc := by
    rw [← hres']
    funext b
    unfold hres
    cases e : mem L b with
    | true => simp only [cond_true]; exact g2 b (mem_iff.1 e)
    | false => rfl
  have hrc : HeapRel H (lcut ι (mem L)) (hres s.h L) w := by
    have key : ∀ b o, hres s.h L b = some o → o.alive = true → b ∈ L ∧ s.h b = some o := fun b o h1 h2 => by
      unfold hres at h1
      cases e : mem L b with
      | true => rw [e] at h1; exact ⟨mem_iff.1 e, h1⟩
      | false => rw [e] at h1; cases h1; cases h2
    refine ⟨hs.heap.know, fun b hb => ?_, fun b o h1 h2 => ?_, fun b b' o o' r r' h1 h2 h3 h4 h5 h6 => ?_⟩
    · unfold hres at hb
      unfold lcut
      cases e : mem L b with
      | true => rw [e] at hb; exact hs.heap.free b hb
      | false => rfl
    · obtain ⟨k1, k2⟩ := key b o h1 h2
      obtain ⟨r, r1, r2, r3⟩ := hs.heap.obj b o k2 h2
      obtain ⟨q, q1, q2⟩ := hLs b k1
      rw [k2] at q1; cases q1
      exact ⟨r, by rw [lcut_lt (mem_iff.2 k1)]; exact r1, objOk_cut r2 q2, r3⟩
    · exact hs.heap.inj b b' o o' r r' (key b o h1 h2).2 h2 (key b' o' h3 h4).2 h4 (lcut_some h5) (lcut_some h6)
  have hcalls := hcall H (lcut ι (mem L)) w _ hra' (hres2 ▸ hrc)
  have hexec : (execOp a.eval o).run P w = .ok (.enter f (args.map a.eval)) w := by
    simp [execOp, ho, resolve, Act.eval, Deferred.ofValue, invoke, run_callFunc hf hn hb]
  unfold Oper.wp
  rw [hexec]
  refine hcalls.mono fun en w' hh => ?_
  obtain ⟨v, r', h', H', ι', rfl, ⟨rfl, hsub⟩, k1, k2, k3⟩ := hh
  have hk' : ∀ b ∈ L, ∃ q, h' b = some q ∧ hputs s.h W b = some q ∧ q.avoid (mem L) = true := fun b hb => by
    obtain ⟨q, q1, q2, q3⟩ := hk.get b hb
    exact ⟨q, hsub b q q1, by rw [hputs_agree (g2 b hb)]; exact q2, q3⟩
  obtain ⟨u1, u2⟩ := call_mix hs.heap hLs (fun p hp => mem_iff.1 (List.all_eq_true.1 hW p hp)) hk' k2 (hres2.symm ▸ k3)
  refine ⟨v, H', _, rfl, fun x ex => ?_, u1, u2⟩
  cases ex
  refine (avoid_rel k1 hra).mono (KLe.refl _) fun b r e => ?_
  by_cases hb : b ∈ L
  · exact ⟨r, by simp only [lmix, mem_iff.2 hb, cond_true]; exact lcut_some e, .inl rfl⟩
  · have : mem L b = false := by cases e : mem L b with | false => rfl | true => exact absurd (mem_iff.1 e) hb
    simp only [lcut, this, cond_false] at e; cases e

end
end Go.Proofs.Ytidfabbnobipkaa.Sv

namespace Go.Proofs.Ytidfabbnobipkaa.Sv
open Go
set_option linter.unusedVariables false
set_option linter.unusedSimpArgs false

abbrev NMap := List (Int × AV)
def kvs (K : IntKind) (m : NMap) : List (AV × AV) := m.map fun p => (.int K p.1, p.2)
inductive EntRel (H : Know) (K : IntKind) : NMap → List MapEntry → Prop
  | nil : EntRel H K [] []
  | cons (z : Int) (v : AV) (m : NMap) (e : MapEntry) (es : List MapEntry) (hk : e.key = .int K z) (hv : Rel H noLay v e.val) (h : EntRel H K m es) : EntRel H K ((z, v) :: m) (e :: es)

theorem EntRel.out {H : Know} {K : IntKind} {m : NMap} {es : List MapEntry} (h : EntRel H K m es) : (kvs K m).length = es.length ∧ ∀ (j : Nat) (k v : AV), (kvs K m)[j]? = some (k, v) → ∃ e, es[j]? = some e ∧ Rel H noLay k e.key ∧ Rel H noLay v e.val := by
  induction h with
  | nil => exact ⟨rfl, fun j k v h => by simp [kvs] at h⟩
  | cons z v m e es hk hv h ih =>
    refine ⟨by simpa [kvs] using ih.1, fun j k u hj => ?_⟩
    cases j with
    | zero =>
      simp [kvs] at hj
      obtain ⟨rfl, rfl⟩ := hj
      exact ⟨e, rfl, by rw [hk]; exact .int _ _ _, hv⟩
    | succ j =>
      obtain ⟨e', k1, k2⟩ := ih.2 j k u (by simpa [kvs] using hj)
      exact ⟨e', by simpa using k1, k2⟩

section
variable {P : Program} {T : Nat → Option TyI} {o : Oper} {e : AEnv} {h : AHeap}

end
end Go.Proofs.Ytidfabbnobipkaa.Sv

namespace Go.Proofs.Ytidfabbnobipkaa.Sv
open Go
set_option linter.unusedVariables false
set_option linter.unusedSimpArgs false
section
variable {P : Program} {T : Nat → Option TyI} {o : Oper} {e : AEnv} {h : AHeap}

end
end Go.Proofs.Ytidfabbnobipkaa.Sv

namespace Go.Proofs.Ytidfabbnobipkaa.Sv
open Go Go.ChangeShapes Go.WideShapes Go.ChangeAt Go.RowKit
set_option linter.unusedVariables false
set_option linter.unusedSimpArgs false

def heapKnow (W : World) : Know := fun b => match W.heap[b]? with
  | some (.cells c _ _) => some c
  | _ => none
theorem heapKnow_ok (W : World) : KnowOk (heapKnow W) W := fun b c h => by
  unfold heapKnow at h
  split at h
  · rename_i c' T fr e; cases h; exact ⟨T, fr, e⟩
  · cases h
theorem heapKnow_cell {W : World} {a : Addr} {v : Value} (h : W.cell? a = some v) : ∃ c, heapKnow W a.block = some c ∧ a.spot = none ∧ c[a.off]? = some v := by
  unfold World.cell? at h
  split at h
  · rename_i c T fr e
    split at h
    · cases h
    · rename_i hs
      refine ⟨c, by simp [heapKnow, e], ?_, h⟩
      cases e2 : a.spot with
      | none => rfl
      | some x => simp [e2] at hs
  · cases h

def Reads (W : World) (cs : List Value) (xs : List AV) : Prop := xs.length = cs.length ∧ ∀ (j : Nat) (x : AV) (v : Value), xs[j]? = some x → cs[j]? = some v → Rel (heapKnow W) noLay x v ∧ x.cell1 = true

section
variable {H : Type}
/-- What reads at a type is such data. -/
def Dec (enc : TypeId × Value → H) (P : Program) (W : World) (t : TypeId) {α : Type} (f : α → List AV) (Q : α → Prop) : Prop :=
  ∀ (fuel : Nat) (cs : List Value) (x : DataW H × List MemPlace), DataW.trod enc P W 0 (fun _ => true) true fuel t cs = some x → (x.1.weights P t).all (· ≤ reachBytes) = true → ∃ a, Reads W cs (f a) ∧ Q a

variable {enc : TypeId × Value → H} {P : Program} {W : World} {t e : TypeId}

theorem Reads.one {v : Value} {x : AV} (h : Rel (heapKnow W) noLay x v) (h1 : x.cell1 = true) : Reads W [v] [x] := ⟨rfl, fun j y u hy hu => by
  cases j with
  | zero => simp at hy hu; subst hy; subst hu; exact ⟨h, h1⟩
  | succ j => simp at hy⟩

theorem Dec.int {k : IntKind} (ht : P.underlying t = some (.int k)) : Dec enc P W t (fun n : Int => [.int k n]) (fun n => (Lit.int k n).wf = true) := fun fuel cs x h _ => by
  obtain ⟨n, rfl, rfl, hw⟩ := DataW.trod_int ht h
  exact ⟨n, .one (.int _ _ _) rfl, hw⟩
theorem Dec.bool (ht : P.underlying t = some .bool) : Dec enc P W t (fun b : Bool => [.bool b]) (fun _ => True) := fun fuel cs x h _ => by
  obtain ⟨b, rfl, rfl⟩ := DataW.trod_bool ht h
  exact ⟨b, .one (.bool _ _) rfl, trivial⟩
theorem Dec.string (ht : P.underlying t = some .string) : Dec enc P W t (fun s : ByteArray => [.str s]) (fun s => s.size ≤ maxLen ∧ s.size ≤ reachBytes) := fun fuel cs x h hw => by
  obtain ⟨s, rfl, rfl, hs⟩ := DataW.trod_string ht h
  refine ⟨s, .one (.str _ _) rfl, hs, ?_⟩
  simpa [DataW.weights] using hw

theorem exists_list {α : Type} {R : Nat → α → Prop} : ∀ n : Nat, (∀ i, i < n → ∃ a, R i a) → ∃ l : List α, l.length = n ∧ ∀ i a, l[i]? = some a → R i a
  | 0, _ => ⟨[], rfl, fun i a h => by simp at h⟩
  | n + 1, h => by
    obtain ⟨l, h1, h2⟩ := exists_list n (fun i hi => h i (by omega))
    obtain ⟨a, ha⟩ := h n (by omega)
    refine ⟨l ++ [a], by simp [h1], fun i b hb => ?_⟩
    by_cases hi : i < n
    · rw [List.getElem?_append_left (by omega)] at hb; exact h2 i b hb
    · rw [List.getElem?_append_right (by omega)] at hb
      have : i = n := by
        rcases Nat.lt_or_ge (i - l.length) 1 with h | h
        · omega
        · rw [List.getElem?_eq_none (by simpa using h)] at hb; cases hb
      subst this
      simp [h1] at hb
      subst hb; exact ha

theorem weightsAll_get : ∀ {ds : List (DataW H)} {d : DataW H} {i : Nat}, (DataW.weightsAll P e ds).all (· ≤ reachBytes) = true → ds[i]? = some d → (d.weights P e).all (· ≤ reachBytes) = true
  | [], _, _, _, h => by simp at h
  | d :: r, d', 0, hw, h => by
    simp at h; subst h
    simp only [DataW.weightsAll, List.all_append, Bool.and_eq_true] at hw
    exact hw.1
  | d :: r, d', i + 1, hw, h => by
    simp only [DataW.weightsAll, List.all_append, Bool.and_eq_true] at hw
    exact weightsAll_get (ds := r) hw.2 (by simpa using h)

theorem Dec.slice {α : Type} {f : α → List AV} {Q : α → Prop} (ht : P.underlying t = some (.slice e)) (hc : 0 < P.cellsOf e) (he : Dec enc P W e f Q) :
    Dec enc P W t (fun l : List α => [.lst false (l.map f)]) (fun l => l.length * P.bytesOf e ≤ reachBytes ∧ ∀ a ∈ l, Q a) := fun fuel cs x h hw => by
  rcases DataW.trod_slice ht h with ⟨rfl, rfl⟩ | ⟨a, len, cap, elems, rest, n, rfl, rfl, rfl, hb, hl, hm, hlen, hel, hsp, hns⟩
  · exact ⟨[], .one (.lst0 _ _ _ _ (fun h => by cases h) (Nat.zero_le _) (fun _ => rfl) trivial) rfl, by simp, fun a h => by cases h⟩
  simp only [DataW.weights, ht, List.all_cons, List.all_append, Bool.and_eq_true, decide_eq_true_eq, List.length_map] at hw
  obtain ⟨w1, w2, w3⟩ := hw
  have key : ∀ i, i < len → ∃ y, ∃ cs', W.cells? 0 (a.add (i * P.cellsOf e)) (P.cellsOf e) = some cs' ∧ Reads W cs' (f y) ∧ Q y := fun i hi => by
    have h1 := hel i hi
    have hlt : i < elems.length := by omega
    rw [List.getElem?_eq_getElem hlt] at h1
    rw [Option.bind_eq_some_iff] at h1
    obtain ⟨cs', c1, c2⟩ := h1
    obtain ⟨y, y1, y2⟩ := he _ _ _ c2 (weightsAll_get w2 (i := i) (by rw [List.getElem?_map, List.getElem?_eq_getElem hlt]; rfl))
    exact ⟨y, cs', c1, y1, y2⟩
  obtain ⟨l, l1, l2⟩ := exists_list len key
  have hQ : ∀ y ∈ l, Q y := fun y hy => by
    obtain ⟨i, hi⟩ := List.mem_iff_getElem?.1 hy
    obtain ⟨cs', _, _, q⟩ := l2 i y hi
    exact q
  have hbytes : l.length * P.bytesOf e ≤ reachBytes := by
    refine Nat.le_trans (Nat.mul_le_mul_right _ ?_) w1
    omega
  refine ⟨l, .one ?_ rfl, hbytes, hQ⟩
  by_cases h0 : len = 0
  · have : l = [] := List.length_eq_zero_iff.1 (by omega)
    subst this; subst h0
    exact .lst0 _ _ _ _ (fun h => by cases h) hm (fun h => by cases h) trivial
  · obtain ⟨y0, cs0, k1, k2, k3⟩ := key 0 (by omega)
    obtain ⟨_, m1, m2⟩ := World.cells?_some k1
    have hz : cs0[0]? = some cs0[0] := List.getElem?_eq_getElem (by omega)
    have hcell := m2 0 hc
    rw [hz] at hcell
    have ha0 : (a.add (0 * P.cellsOf e)).add 0 = a := by simp [Addr.add]
    rw [ha0] at hcell
    obtain ⟨c, hH, hspot, _⟩ := heapKnow_cell hcell
    obtain ⟨ab, ao, asp⟩ := a
    simp only at hspot hH
    subst hspot
    have hsz : ∀ (i : Nat) (xs : List AV), (l.map f)[i]? = some xs → xs.length = P.cellsOf e ∧ ∀ (j : Nat) (x : AV), xs[j]? = some x → ∃ v, c[ao + i * P.cellsOf e + j]? = some v ∧ Rel (heapKnow W) noLay x v ∧ x.cell1 = true := fun i xs hi => by
      rw [List.getElem?_map, Option.map_eq_some_iff] at hi
      obtain ⟨y, y1, rfl⟩ := hi
      obtain ⟨cs', c1, c2, c3⟩ := l2 i y y1
      obtain ⟨_, n1, n2⟩ := World.cells?_some c1
      refine ⟨by rw [c2.1, n1], fun j x hj => ?_⟩
      have hjlt : j < cs'.length := by rw [← c2.1]; exact (List.getElem?_eq_some_iff.1 hj).1
      have h3 := n2 j (by omega)
      rw [List.getElem?_eq_getElem hjlt, add_mk, add_mk] at h3
      obtain ⟨c', e1, _, e3⟩ := heapKnow_cell h3
      simp only at e1 e3
      rw [hH] at e1; cases e1
      obtain ⟨g1, g2⟩ := c2.2 j x _ hj (List.getElem?_eq_getElem hjlt)
      exact ⟨_, e3, g1, g2⟩
    have := Rel.lst (H := heapKnow W) noLay false (l.map f) ab ao cap (P.cellsOf e) c (fun i j => (c[ao + i * P.cellsOf e + j]?).getD undef) (fun hh => by rw [List.map_eq_nil_iff] at hh; subst hh; simp at l1; omega) hH
      (fun i xs hi => (hsz i xs hi).1) (fun i xs j x hi hj => by obtain ⟨v, v1, _⟩ := (hsz i xs hi).2 j x hj; rw [v1]; rfl)
      (fun i xs j x hi hj => by obtain ⟨v, v1, v2, _⟩ := (hsz i xs hi).2 j x hj; rw [v1]; exact v2) (fun i xs j x hi hj => by obtain ⟨v, v1, v2, v3⟩ := (hsz i xs hi).2 j x hj; exact v3) (fun h => by cases h) (by simp [l1]; exact hl) hm
    rw [List.length_map, l1] at this
    exact this

/-! ### by the table of types -/
variable {T : Nat → Option TyI}
theorem cellsOf_of {i : TyI} (hT : TOk P T) (hi : T t = some i) : P.cellsOf t = i.size := by
  obtain ⟨info, d, e1, e2, e3, e4, e5, e6⟩ := tyOf_spec (hT _ _ hi)
  simp [Program.cellsOf, e1, e4]
theorem bytesOf_of {i : TyI} (hT : TOk P T) (hi : T t = some i) : P.bytesOf t = i.bytes := by
  obtain ⟨info, d, e1, e2, e3, e4, e5, e6⟩ := tyOf_spec (hT _ _ hi)
  simp [Program.bytesOf, e1, e5]
theorem Dec.int' {k : IntKind} {i : TyI} (hT : TOk P T) (hi : T t = some i) (hk : i.k = .int k) : Dec enc P W t (fun n : Int => [.int k n]) (fun n => (Lit.int k n).wf = true) := by
  obtain ⟨info, d, e1, e2, e3, e4, e5, e6⟩ := tyOf_spec (hT _ _ hi)
  have hd := tk_int (P := P) (d := d) (e3 ▸ hk)
  subst hd
  exact Dec.int e2
theorem Dec.bool' {i : TyI} (hT : TOk P T) (hi : T t = some i) (hk : i.k = .bool) : Dec enc P W t (fun b : Bool => [.bool b]) (fun _ => True) := by
  obtain ⟨info, d, e1, e2, e3, e4, e5, e6⟩ := tyOf_spec (hT _ _ hi)
  have hd := tk_bool (P := P) (d := d) (e3 ▸ hk)
  subst hd
  exact Dec.bool e2
theorem Dec.slice' {α : Type} {f : α → List AV} {Q : α → Prop} {i j : TyI} {u : Nat} (hT : TOk P T) (hi : T t = some i) (hk : i.k = .slice u) (hj : T u = some j) (hp : 0 < j.size) (he : Dec enc P W u f Q) :
    Dec enc P W t (fun l : List α => [.lst false (l.map f)]) (fun l => l.length * j.bytes ≤ reachBytes ∧ ∀ a ∈ l, Q a) := by
  obtain ⟨info, d, e1, e2, e3, e4, e5, e6⟩ := tyOf_spec (hT _ _ hi)
  have hd := tk_slice (P := P) (d := d) (e3 ▸ hk)
  subst hd
  have := Dec.slice (enc := enc) (W := W) e2 (by rw [cellsOf_of hT hj]; exact hp) he
  rwa [bytesOf_of hT hj] at this

theorem weightsEach_get : ∀ {ts : List TypeId} {ds : List (DataW H)} {t : TypeId} {d : DataW H} {i : Nat}, (DataW.weightsEach P ts ds).all (· ≤ reachBytes) = true → ts[i]? = some t → ds[i]? = some d → (d.weights P t).all (· ≤ reachBytes) = true
  | [], _, _, _, _, _, h, _ => by simp at h
  | _ :: _, [], _, _, _, _, _, h => by simp at h
  | t :: ts, d :: ds, t', d', 0, hw, h1, h2 => by
    simp at h1 h2; subst h1; subst h2
    simp only [DataW.weightsEach, List.all_append, Bool.and_eq_true] at hw
    exact hw.1
  | t :: ts, d :: ds, t', d', i + 1, hw, h1, h2 => by
    simp only [DataW.weightsEach, List.all_append, Bool.and_eq_true] at hw
    exact weightsEach_get (ts := ts) (ds := ds) hw.2 (by simpa using h1) (by simpa using h2)

theorem Reads.nil (W : World) (cs : List Value) : Reads W (cs.take 0) [] := ⟨by simp, fun j x v h => by simp at h⟩
theorem Reads.all {cs : List Value} {n : Nat} {xs : List AV} (h : Reads W (cs.take n) xs) (hn : cs.length = n) : Reads W cs xs := by
  rwa [List.take_of_length_le (by omega)] at h

/-- An argument. -/
theorem arg_one {α : Type} {f : α → List AV} {Q : α → Prop} {v : Value} {d : DataW H} {ps : List MemPlace} (h : DataW.Trod enc P W 0 (fun _ => true) true t v d ps) (hw : (d.weights P t).all (· ≤ reachBytes) = true) (hd : Dec enc P W t f Q) : ∃ a, Reads W v.cells.toList (f a) ∧ Q a := by
  obtain ⟨fuel, hf⟩ := h
  exact hd _ _ _ hf hw
theorem Reads.val {v : Value} {xs : List AV} (h : Reads W v.cells.toList xs) (hv : ∃ cs, v = .agg cs) : Rel (heapKnow W) noLay (.agg xs) v := by
  obtain ⟨cs, rfl⟩ := hv
  exact .agg _ _ _ (by simpa [Value.cells] using h.1) fun j x u h1 h2 => (h.2 j x u h1 (by simpa [Value.cells] using h2)).1
theorem Reads.val1 {v : Value} {x : AV} (h : Reads W v.cells.toList [x]) (hv : ∀ cs, v ≠ .agg cs) : Rel (heapKnow W) noLay x v := by
  have hc : v.cells.toList = [v] := by cases v <;> first | rfl | exact absurd rfl (hv _)
  rw [hc] at h
  exact (h.2 0 x v rfl rfl).1
/-! ### the row -/
theorem Grow.kept {H0 H' : Know} {W W' : World} (g : Grow H0 W H' W') (may : MemPlace → Prop) : W.keptBut W' may := by
  refine ⟨g.os, g.out, fun i hi => ?_⟩
  rw [g.keep i hi]
  split <;> simp_all

theorem post_law {f : Func} {s : ChangeSpec} {apart fresh handsOn : Bool} {W W' : World} {args : Array Value} {v : Value} {ds gs : List (DataW H)} {before pa pv : List MemPlace}
    (hW : DataW.Whole enc P f.params.toList s.vars apart W args.toList ds gs before)
    (hres : ∀ (b : Nat) (sp : Nat → Bool) (hd : Bool), DataW.TrodAll enc P W' b sp hd f.resultTypes.toList (v.resultList f.resultTypes.size) (s.fn H (ds ++ gs)).results [])
    (hargs : ∀ sp : Nat → Bool, (∀ p ∈ before, sp p.block = true) → DataW.TrodAll enc P W' 0 sp true f.params.toList args.toList (s.fn H (ds ++ gs)).args pa)
    (hvars : ∀ sp : Nat → Bool, (∀ p ∈ before, sp p.block = true) → DataW.TrodVars enc P W' sp s.vars (s.fn H (ds ++ gs)).vars pv)
    (hps : before = pa ++ pv) (hk : ∀ may : MemPlace → Prop, W.keptBut W' may) : s.post enc P f apart fresh handsOn false W args v W' := by
  have hold : ∀ p ∈ before, (fun b => decide (b < W.heap.size)) p.block = true := fun p hp => by simpa using hW.lt p hp
  exact ⟨ds, gs, before, [], pa, pv, hW, hres _ _ _, hargs _ hold, hvars _ hold, hk _, fun h => by cases h⟩

theorem trodAll_stays (hl : laidOutB P = true) {W' : World} {sp : Nat → Bool} : ∀ {ts : List TypeId} {vs : List Value} {ds : List (DataW H)} {ps : List MemPlace}, ts.all (fun t => P.readableRec t && decide (t < P.types.size)) = true →
    DataW.TrodAll enc P W 0 (fun _ => true) true ts vs ds ps → (∀ p ∈ ps, W.sameAt W' p) → (∀ p ∈ ps, sp p.block = true) → DataW.TrodAll enc P W' 0 sp true ts vs ds ps
  | [], vs, ds, ps, _, h, _, _ => by
    obtain ⟨rfl, rfl, rfl⟩ := trodAll_nil h
    rfl
  | t :: ts, vs, ds, ps, hr, h, h1, h2 => by
    obtain ⟨v, vs', d, ds', p, q, rfl, rfl, rfl, hd, hrest⟩ := trodAll_cons h
    simp only [List.all_cons, Bool.and_eq_true, decide_eq_true_eq] at hr
    exact ⟨p, q, WideElems.Trod_stays hl hr.1.1 hr.1.2 hd (fun x hx => h1 x (by simp [hx])) (fun x hx => h2 x (by simp [hx])), trodAll_stays hl hr.2 hrest (fun x hx => h1 x (by simp [hx])) (fun x hx => h2 x (by simp [hx])), rfl⟩

theorem Grow.same {H0 H' : Know} {W W' : World} (g : Grow H0 W H' W') {p : MemPlace} (hp : p.block < W.heap.size) : W.sameAt W' p := by
  cases p with
  | cell b off =>
    have := g.keep b hp
    show W'.cell? _ = W.cell? _
    unfold World.cell?
    simp only [this]
  | map b => exact g.keep b hp

/-- A law that is true of whatever it is given: from its contract of plain data. -/
theorem law_calls {f : FuncId} {fn : Func} {s : ChangeSpec} {args : Array Value} {ds gs : List (DataW H)} {before : List MemPlace} {tb : TypeId} {xs : List AV} (hl : laidOutB P = true) (hvs : s.vars = []) (hr : fn.params.toList.all (fun t => P.readableRec t && decide (t < P.types.size)) = true)
    (hres : fn.resultTypes = #[tb]) (hb : P.underlying tb = some .bool) (hs1 : (s.fn H (ds ++ gs)).results = [.lit (.bool true)]) (hs2 : (s.fn H (ds ++ gs)).args = ds) (hs3 : (s.fn H (ds ++ gs)).vars = [])
    (hW : DataW.Whole enc P fn.params.toList s.vars false W args.toList ds gs before) (hrel : RelAll (heapKnow W) noLay xs args) (hc : APure P f xs (fun r => r = .bool true)) {fresh handsOn : Bool} :
    Calls P f args W fun e W' => ∃ v, e = .returned v ∧ s.post enc P fn false fresh handsOn false W args v W' := by
  have hW' := hW
  obtain ⟨p, q, hA, hV, rfl, hfz, hnd⟩ := hW
  rw [hvs] at hV
  obtain ⟨rfl, rfl⟩ := trodVars_none hV
  have hlt : ∀ x ∈ p ++ [], x.block < W.heap.size := fun x hx => hW'.lt x hx
  refine (hc (heapKnow W) W args hrel (heapKnow_ok W)).mono fun e W' hx => ?_
  obtain ⟨v, r, H', rfl, rfl, h3, h4⟩ := hx
  have hv := h3.bool_inv
  subst hv
  refine ⟨_, rfl, post_law (pa := p) (pv := []) hW' (fun b sp hd => ?_) (fun sp hsp => ?_) (fun sp hsp => ?_) rfl (fun may => h4.kept may)⟩
  · rw [hs1, hres]
    exact trodAll_mk1 (shut_bool hb true)
  · rw [hs2]
    exact trodAll_stays hl hr hA (fun x hx => h4.same (hlt x (by simp [hx]))) (fun x hx => hsp x (by simp [hx]))
  · rw [hs3, hvs]; rfl

theorem RelAll.nil {K : Know} {ι : Lay} : RelAll K ι [] #[] := ⟨rfl, fun j x v h => by simp at h⟩
theorem RelAll.cons {K : Know} {ι : Lay} {x : AV} {xs : List AV} {v : Value} {vs : List Value} (h : Rel K ι x v) (hs : RelAll K ι xs ⟨vs⟩) : RelAll K ι (x :: xs) ⟨v :: vs⟩ := by
  refine ⟨by have := hs.1; simp at this ⊢; exact this, fun j y u h1 h2 => ?_⟩
  cases j with
  | zero => simp at h1 h2; subst h1; subst h2; exact h
  | succ j => exact hs.2 j y u (by simpa using h1) (by simpa using h2)
end
end Go.Proofs.Ytidfabbnobipkaa.Sv

namespace Go.Proofs.Ytidfabbnobipkaa.Sv
open Go
abbrev ty0 : TyI := ⟨.other, 1, 0, []⟩
abbrev ty1 : TyI := ⟨.other, 1, 8, []⟩
abbrev ty2 : TyI := ⟨.int .i64, 1, 8, [.int .i64 0]⟩
abbrev ty3 : TyI := ⟨.int .i64, 1, 8, [.int .i64 0]⟩
abbrev ty4 : TyI := ⟨.bool, 1, 1, [.bool false]⟩
abbrev ty5 : TyI := ⟨.int .u8, 1, 1, [.int .u8 0]⟩
abbrev ty6 : TyI := ⟨.int .u8, 1, 1, [.int .u8 0]⟩
abbrev ty7 : TyI := ⟨.struct [(0, 2), (1, 3), (2, 4), (3, 6)], 4, 24, [.int .i64 0, .int .i64 0, .bool false, .int .u8 0]⟩
abbrev ty8 : TyI := ⟨.struct [(0, 2), (1, 3), (2, 4), (3, 6)], 4, 24, [.int .i64 0, .int .i64 0, .bool false, .int .u8 0]⟩
abbrev ty9 : TyI := ⟨.string, 1, 16, [.str ⟨#[]⟩]⟩
abbrev ty10 : TyI := ⟨.string, 1, 16, [.str ⟨#[]⟩]⟩
abbrev ty11 : TyI := ⟨.string, 1, 16, [.str ⟨#[]⟩]⟩
abbrev ty12 : TyI := ⟨.int .u64, 1, 8, [.int .u64 0]⟩
abbrev ty13 : TyI := ⟨.struct [(0, 9), (1, 12)], 2, 24, [.str ⟨#[]⟩, .int .u64 0]⟩
abbrev ty14 : TyI := ⟨.struct [(0, 9), (1, 12)], 2, 24, [.str ⟨#[]⟩, .int .u64 0]⟩
abbrev ty15 : TyI := ⟨.ptr 103, 1, 8, [.nilp]⟩
abbrev ty16 : TyI := ⟨.ptr 106, 1, 8, [.nilp]⟩
abbrev ty17 : TyI := ⟨.ptr 115, 1, 8, [.nilp]⟩
abbrev ty18 : TyI := ⟨.struct [(0, 17)], 1, 8, [.nilp]⟩
abbrev ty19 : TyI := ⟨.struct [(0, 17)], 1, 8, [.nilp]⟩
abbrev ty20 : TyI := ⟨.other, 1, 16, []⟩
abbrev ty21 : TyI := ⟨.int .i32, 1, 4, [.int .i32 0]⟩
abbrev ty22 : TyI := ⟨.slice 29, 1, 24, [.nil]⟩
abbrev ty23 : TyI := ⟨.struct [(0, 3), (1, 22)], 2, 32, [.int .i64 0, .nil]⟩
abbrev ty24 : TyI := ⟨.struct [(0, 3), (1, 22)], 2, 32, [.int .i64 0, .nil]⟩
abbrev ty25 : TyI := ⟨.other, 1, 8, []⟩
abbrev ty26 : TyI := ⟨.other, 1, 8, []⟩
abbrev ty27 : TyI := ⟨.slice 59, 1, 24, [.nil]⟩
abbrev ty28 : TyI := ⟨.struct [(0, 3), (1, 27)], 2, 32, [.int .i64 0, .nil]⟩
abbrev ty29 : TyI := ⟨.struct [(0, 3), (1, 27)], 2, 32, [.int .i64 0, .nil]⟩
abbrev ty30 : TyI := ⟨.slice 52, 1, 24, [.nil]⟩
abbrev ty31 : TyI := ⟨.other, 1, 0, []⟩
abbrev ty32 : TyI := ⟨.other, 1, 8, []⟩
abbrev ty33 : TyI := ⟨.other, 1, 8, []⟩
abbrev ty34 : TyI := ⟨.other, 1, 8, []⟩
abbrev ty35 : TyI := ⟨.other, 1, 8, []⟩
abbrev ty36 : TyI := ⟨.other, 1, 8, []⟩
abbrev ty37 : TyI := ⟨.other, 1, 8, []⟩
abbrev ty38 : TyI := ⟨.other, 1, 8, []⟩
abbrev ty39 : TyI := ⟨.other, 1, 8, []⟩
abbrev ty40 : TyI := ⟨.other, 1, 8, []⟩
abbrev ty41 : TyI := ⟨.struct [(0, 3), (1, 9), (2, 3)], 3, 32, [.int .i64 0, .str ⟨#[]⟩, .int .i64 0]⟩
abbrev ty42 : TyI := ⟨.struct [(0, 3), (1, 9), (2, 3)], 3, 32, [.int .i64 0, .str ⟨#[]⟩, .int .i64 0]⟩
abbrev ty43 : TyI := ⟨.other, 1, 8, []⟩
abbrev ty44 : TyI := ⟨.other, 1, 8, []⟩
abbrev ty45 : TyI := ⟨.struct [(0, 24), (2, 29), (4, 30)], 5, 88, [.int .i64 0, .nil, .int .i64 0, .nil, .nil]⟩
abbrev ty46 : TyI := ⟨.struct [(0, 24), (2, 29), (4, 30)], 5, 88, [.int .i64 0, .nil, .int .i64 0, .nil, .nil]⟩
abbrev ty47 : TyI := ⟨.other, 1, 8, []⟩
abbrev ty48 : TyI := ⟨.slice 4, 1, 24, [.nil]⟩
abbrev ty49 : TyI := ⟨.other, 1, 8, []⟩
abbrev ty50 : TyI := ⟨.other, 1, 8, []⟩
abbrev ty51 : TyI := ⟨.other, 1, 8, []⟩
abbrev ty52 : TyI := ⟨.slice 3, 1, 24, [.nil]⟩
abbrev ty53 : TyI := ⟨.slice 5, 1, 24, [.nil]⟩
abbrev ty54 : TyI := ⟨.slice 57, 1, 24, [.nil]⟩
abbrev ty55 : TyI := ⟨.int .u32, 1, 4, [.int .u32 0]⟩
abbrev ty56 : TyI := ⟨.struct [(0, 3), (1, 3), (2, 3), (3, 3), (4, 3), (5, 3), (6, 3), (7, 55)], 8, 64, [.int .i64 0, .int .i64 0, .int .i64 0, .int .i64 0, .int .i64 0, .int .i64 0, .int .i64 0, .int .u32 0]⟩
abbrev ty57 : TyI := ⟨.struct [(0, 3), (1, 3), (2, 3), (3, 3), (4, 3), (5, 3), (6, 3), (7, 55)], 8, 64, [.int .i64 0, .int .i64 0, .int .i64 0, .int .i64 0, .int .i64 0, .int .i64 0, .int .i64 0, .int .u32 0]⟩
abbrev ty58 : TyI := ⟨.struct [(0, 54), (1, 3), (2, 3), (3, 3), (4, 3)], 5, 56, [.nil, .int .i64 0, .int .i64 0, .int .i64 0, .int .i64 0]⟩
abbrev ty59 : TyI := ⟨.struct [(0, 54), (1, 3), (2, 3), (3, 3), (4, 3)], 5, 56, [.nil, .int .i64 0, .int .i64 0, .int .i64 0, .int .i64 0]⟩
abbrev ty60 : TyI := ⟨.other, 1, 8, []⟩
abbrev ty61 : TyI := ⟨.struct [(0, 29), (2, 29), (4, 29), (6, 30), (7, 30)], 8, 144, [.int .i64 0, .nil, .int .i64 0, .nil, .int .i64 0, .nil, .nil, .nil]⟩
abbrev ty62 : TyI := ⟨.struct [(0, 29), (2, 29), (4, 29), (6, 30), (7, 30)], 8, 144, [.int .i64 0, .nil, .int .i64 0, .nil, .int .i64 0, .nil, .nil, .nil]⟩
abbrev ty63 : TyI := ⟨.other, 1, 8, []⟩
abbrev ty64 : TyI := ⟨.other, 1, 0, []⟩
abbrev ty65 : TyI := ⟨.other, 1, 8, []⟩
abbrev ty66 : TyI := ⟨.other, 1, 8, []⟩
abbrev ty67 : TyI := ⟨.other, 1, 8, []⟩
abbrev ty68 : TyI := ⟨.other, 1, 8, []⟩
abbrev ty69 : TyI := ⟨.other, 1, 8, []⟩
abbrev ty70 : TyI := ⟨.other, 1, 8, []⟩
abbrev ty71 : TyI := ⟨.other, 1, 8, []⟩
abbrev ty72 : TyI := ⟨.other, 1, 8, []⟩
abbrev ty73 : TyI := ⟨.ptr 76, 1, 8, [.nilp]⟩
abbrev ty74 : TyI := ⟨.slice 55, 1, 24, [.nil]⟩
abbrev ty75 : TyI := ⟨.struct [(0, 24), (2, 9), (3, 3), (4, 74), (5, 53), (6, 3), (7, 3), (8, 3)], 9, 128, [.int .i64 0, .nil, .str ⟨#[]⟩, .int .i64 0, .nil, .nil, .int .i64 0, .int .i64 0, .int .i64 0]⟩
abbrev ty76 : TyI := ⟨.struct [(0, 24), (2, 9), (3, 3), (4, 74), (5, 53), (6, 3), (7, 3), (8, 3)], 9, 128, [.int .i64 0, .nil, .str ⟨#[]⟩, .int .i64 0, .nil, .nil, .int .i64 0, .int .i64 0, .int .i64 0]⟩
abbrev ty77 : TyI := ⟨.other, 1, 8, []⟩
abbrev ty78 : TyI := ⟨.other, 1, 8, []⟩
abbrev ty79 : TyI := ⟨.other, 1, 8, []⟩
abbrev ty80 : TyI := ⟨.other, 1, 0, []⟩
abbrev ty81 : TyI := ⟨.other, 1, 8, []⟩
abbrev ty82 : TyI := ⟨.other, 1, 8, []⟩
abbrev ty83 : TyI := ⟨.other, 1, 8, []⟩
abbrev ty84 : TyI := ⟨.other, 1, 8, []⟩
abbrev ty85 : TyI := ⟨.other, 1, 8, []⟩
abbrev ty86 : TyI := ⟨.other, 1, 8, []⟩
abbrev ty87 : TyI := ⟨.slice 89, 1, 24, [.nil]⟩
abbrev ty88 : TyI := ⟨.struct [(0, 3), (1, 3)], 2, 16, [.int .i64 0, .int .i64 0]⟩
abbrev ty89 : TyI := ⟨.struct [(0, 3), (1, 3)], 2, 16, [.int .i64 0, .int .i64 0]⟩
abbrev ty90 : TyI := ⟨.ptr 89, 1, 8, [.nilp]⟩
abbrev ty91 : TyI := ⟨.other, 1, 8, []⟩
abbrev ty92 : TyI := ⟨.other, 1, 8, []⟩
abbrev ty93 : TyI := ⟨.int .i64, 1, 8, [.int .i64 0]⟩
abbrev ty94 : TyI := ⟨.other, 1, 0, []⟩
abbrev ty95 : TyI := ⟨.other, 1, 8, []⟩
abbrev ty96 : TyI := ⟨.int .u64, 1, 8, [.int .u64 0]⟩
abbrev ty97 : TyI := ⟨.other, 1, 8, []⟩
abbrev ty98 : TyI := ⟨.other, 1, 8, []⟩
abbrev ty99 : TyI := ⟨.other, 1, 8, []⟩
abbrev ty100 : TyI := ⟨.other, 1, 8, []⟩
abbrev ty101 : TyI := ⟨.other, 1, 8, []⟩
abbrev ty102 : TyI := ⟨.struct [(0, 17), (1, 17), (2, 17), (3, 9)], 4, 40, [.nilp, .nilp, .nilp, .str ⟨#[]⟩]⟩
abbrev ty103 : TyI := ⟨.struct [(0, 17), (1, 17), (2, 17), (3, 9)], 4, 40, [.nilp, .nilp, .nilp, .str ⟨#[]⟩]⟩
abbrev ty104 : TyI := ⟨.array 0 16, 0, 0, []⟩
abbrev ty105 : TyI := ⟨.other, 0, 0, []⟩
abbrev ty106 : TyI := ⟨.other, 0, 0, []⟩
abbrev ty107 : TyI := ⟨.other, 1, 8, []⟩
abbrev ty108 : TyI := ⟨.int .u8, 1, 1, [.int .u8 0]⟩
abbrev ty109 : TyI := ⟨.int .u8, 1, 1, [.int .u8 0]⟩
abbrev ty110 : TyI := ⟨.other, 1, 8, []⟩
abbrev ty111 : TyI := ⟨.ptr 5, 1, 8, [.nilp]⟩
abbrev ty112 : TyI := ⟨.int .i32, 1, 4, [.int .i32 0]⟩
abbrev ty113 : TyI := ⟨.int .i32, 1, 4, [.int .i32 0]⟩
abbrev ty114 : TyI := ⟨.struct [(0, 12), (1, 12), (2, 55), (3, 108), (4, 5), (5, 5), (6, 109), (7, 110), (8, 111), (9, 112), (10, 113)], 11, 48, []⟩
abbrev ty115 : TyI := ⟨.struct [(0, 12), (1, 12), (2, 55), (3, 108), (4, 5), (5, 5), (6, 109), (7, 110), (8, 111), (9, 112), (10, 113)], 11, 48, []⟩
abbrev ty116 : TyI := ⟨.other, 1, 8, [.nilp]⟩
def TI (t : Nat) : Option TyI := bif Nat.blt t 117 then (bif Nat.blt t 58 then (bif Nat.blt t 29 then (bif Nat.blt t 14 then (bif Nat.blt t 7 then (bif Nat.blt t 3 then (bif Nat.blt t 1 then some ty0 else (bif Nat.blt t 2 then some ty1 else some ty2)) else (bif Nat.blt t 5 then (bif Nat.blt t 4 then some ty3 else some ty4) else (bif Nat.blt t 6 then some ty5 else some ty6))) else (bif Nat.blt t 10 then (bif Nat.blt t 8 then some ty7 else (bif Nat.blt t 9 then some ty8 else some ty9)) else (bif Nat.blt t 12 then (bif Nat.blt t 11 then some ty10 else some ty11) else (bif Nat.blt t 13 then some ty12 else some ty13)))) else (bif Nat.blt t 21 then (bif Nat.blt t 17 then (bif Nat.blt t 15 then some ty14 else (bif Nat.blt t 16 then some ty15 else some ty16)) else (bif Nat.blt t 19 then (bif Nat.blt t 18 then some ty17 else some ty18) else (bif Nat.blt t 20 then some ty19 else some ty20))) else (bif Nat.blt t 25 then (bif Nat.blt t 23 then (bif Nat.blt t 22 then some ty21 else some ty22) else (bif Nat.blt t 24 then some ty23 else some ty24)) else (bif Nat.blt t 27 then (bif Nat.blt t 26 then some ty25 else some ty26) else (bif Nat.blt t 28 then some ty27 else some ty28))))) else (bif Nat.blt t 43 then (bif Nat.blt t 36 then (bif Nat.blt t 32 then (bif Nat.blt t 30 then some ty29 else (bif Nat.blt t 31 then some ty30 else some ty31)) else (bif Nat.blt t 34 then (bif Nat.blt t 33 then some ty32 else some ty33) else (bif Nat.blt t 35 then some ty34 else some ty35))) else (bif Nat.blt t 39 then (bif Nat.blt t 37 then some ty36 else (bif Nat.blt t 38 then some ty37 else some ty38)) else (bif Nat.blt t 41 then (bif Nat.blt t 40 then some ty39 else some ty40) else (bif Nat.blt t 42 then some ty41 else some ty42)))) else (bif Nat.blt t 50 then (bif Nat.blt t 46 then (bif Nat.blt t 44 then some ty43 else (bif Nat.blt t 45 then some ty44 else some ty45)) else (bif Nat.blt t 48 then (bif Nat.blt t 47 then some ty46 else some ty47) else (bif Nat.blt t 49 then some ty48 else some ty49))) else (bif Nat.blt t 54 then (bif Nat.blt t 52 then (bif Nat.blt t 51 then some ty50 else some ty51) else (bif Nat.blt t 53 then some ty52 else some ty53)) else (bif Nat.blt t 56 then (bif Nat.blt t 55 then some ty54 else some ty55) else (bif Nat.blt t 57 then some ty56 else some ty57)))))) else (bif Nat.blt t 87 then (bif Nat.blt t 72 then (bif Nat.blt t 65 then (bif Nat.blt t 61 then (bif Nat.blt t 59 then some ty58 else (bif Nat.blt t 60 then some ty59 else some ty60)) else (bif Nat.blt t 63 then (bif Nat.blt t 62 then some ty61 else some ty62) else (bif Nat.blt t 64 then some ty63 else some ty64))) else (bif Nat.blt t 68 then (bif Nat.blt t 66 then some ty65 else (bif Nat.blt t 67 then some ty66 else some ty67)) else (bif Nat.blt t 70 then (bif Nat.blt t 69 then some ty68 else some ty69) else (bif Nat.blt t 71 then some ty70 else some ty71)))) else (bif Nat.blt t 79 then (bif Nat.blt t 75 then (bif Nat.blt t 73 then some ty72 else (bif Nat.blt t 74 then some ty73 else some ty74)) else (bif Nat.blt t 77 then (bif Nat.blt t 76 then some ty75 else some ty76) else (bif Nat.blt t 78 then some ty77 else some ty78))) else (bif Nat.blt t 83 then (bif Nat.blt t 81 then (bif Nat.blt t 80 then some ty79 else some ty80) else (bif Nat.blt t 82 then some ty81 else some ty82)) else (bif Nat.blt t 85 then (bif Nat.blt t 84 then some ty83 else some ty84) else (bif Nat.blt t 86 then some ty85 else some ty86))))) else (bif Nat.blt t 102 then (bif Nat.blt t 94 then (bif Nat.blt t 90 then (bif Nat.blt t 88 then some ty87 else (bif Nat.blt t 89 then some ty88 else some ty89)) else (bif Nat.blt t 92 then (bif Nat.blt t 91 then some ty90 else some ty91) else (bif Nat.blt t 93 then some ty92 else some ty93))) else (bif Nat.blt t 98 then (bif Nat.blt t 96 then (bif Nat.blt t 95 then some ty94 else some ty95) else (bif Nat.blt t 97 then some ty96 else some ty97)) else (bif Nat.blt t 100 then (bif Nat.blt t 99 then some ty98 else some ty99) else (bif Nat.blt t 101 then some ty100 else some ty101)))) else (bif Nat.blt t 109 then (bif Nat.blt t 105 then (bif Nat.blt t 103 then some ty102 else (bif Nat.blt t 104 then some ty103 else some ty104)) else (bif Nat.blt t 107 then (bif Nat.blt t 106 then some ty105 else some ty106) else (bif Nat.blt t 108 then some ty107 else some ty108))) else (bif Nat.blt t 113 then (bif Nat.blt t 111 then (bif Nat.blt t 110 then some ty109 else some ty110) else (bif Nat.blt t 112 then some ty111 else some ty112)) else (bif Nat.blt t 115 then (bif Nat.blt t 114 then some ty113 else some ty114) else (bif Nat.blt t 116 then some ty115 else some ty116))))))) else none
theorem ti_all : (List.range 117).map TI = (List.range 117).map (tyOf Go.Proofs.Try.prog) := by kernel_rfl
theorem tok : TOk Go.Proofs.Try.prog TI := by
  intro t i h
  by_cases c : t < 117
  · have h1 : ((List.range 117).map TI)[t]? = ((List.range 117).map (tyOf Go.Proofs.Try.prog))[t]? := by rw [ti_all]
    rw [List.getElem?_map, List.getElem?_map, List.getElem?_range c] at h1
    simp only [Option.map_some, Option.some.injEq] at h1
    rw [← h1, h]
  · have h2 : Nat.blt t 117 = false := by
      rw [Bool.eq_false_iff]
      intro hc
      exact c (Nat.blt_eq.mp hc)
    unfold TI at h
    rw [h2] at h
    cases h
theorem mix : Go.Proofs.Try.prog.follows .mixedOrders = true := by kernel_rfl
end Go.Proofs.Ytidfabbnobipkaa.Sv

namespace Go.Proofs.Ytidfabbnobipkaa.Sv
open Go
set_option linter.unusedVariables false

structure Tac where
  op : Int
  d : Int
  a : Int
  b : Int
  k : Int
  base : Int
  size : Int
  n : Int
  deriving DecidableEq, Repr
structure Block where
  ins : List Tac
  fin : Int
  v : Int
  to : Int
  els : Int
  deriving DecidableEq, Repr
structure BFunc where
  regs : Int
  blocks : List Block
  deriving DecidableEq, Repr
structure Blocks where
  words : Int
  funcs : List BFunc
  deriving DecidableEq, Repr
structure Cert where
  same : List (List Bool)
  deriving DecidableEq, Repr

def Tac.cells (t : Tac) : List AV := [.int .i64 t.op, .int .i64 t.d, .int .i64 t.a, .int .i64 t.b, .int .i64 t.k, .int .i64 t.base, .int .i64 t.size, .int .u32 t.n]
def insAV (l : List Tac) : AV := .lst false (l.map Tac.cells)
def Block.cells (b : Block) : List AV := [insAV b.ins, .int .i64 b.fin, .int .i64 b.v, .int .i64 b.to, .int .i64 b.els]
def blocksAV (l : List Block) : AV := .lst false (l.map Block.cells)
def BFunc.cells (f : BFunc) : List AV := [.int .i64 f.regs, blocksAV f.blocks]
def funcsAV (l : List BFunc) : AV := .lst false (l.map BFunc.cells)
def Blocks.cells (b : Blocks) : List AV := [.int .i64 b.words, funcsAV b.funcs]
def boolsAV (l : List Bool) : AV := .lst false (l.map fun b => [.bool b])
def intsAV (l : List Int) : AV := .lst false (l.map fun b => [.int .i64 b])
def rowsAV (l : List (List Bool)) : AV := .lst false (l.map fun r => [boolsAV r])
def pathsAV (l : List (List Int)) : AV := .lst false (l.map fun r => [intsAV r])
def Cert.cells (c : Cert) : List AV := [rowsAV c.same]

theorem idx_map {α : Type} {l : List α} {f : α → List AV} {k : Nat} {x : α} (h : l[k]? = some x) : (l.map f)[((k : Nat) : Int).toNat]? = some (f x) := by
  rw [Int.toNat_natCast, List.getElem?_map, h]; rfl

theorem get_of_lt {α : Type} {l : List α} {k : Nat} (h : k < l.length) : ∃ x, l[k]? = some x := ⟨l[k], List.getElem?_eq_getElem h⟩

theorem take_succ_eq {α : Type} {l : List α} {k : Nat} {x : α} (h : l[k]? = some x) : l.take (k + 1) = l.take k ++ [x] := by
  rw [List.take_add_one, h]; rfl

/-! ### how long the parts may be -/
def fitsIns (l : List Tac) : Prop := l.length ≤ maxLen
def Block.fits (x : Block) : Prop := x.ins.length ≤ maxLen
def fitsBlocks (l : List Block) : Prop := l.length ≤ maxLen ∧ ∀ x ∈ l, x.fits
def BFunc.fits (f : BFunc) : Prop := fitsBlocks f.blocks
def fitsFuncs (l : List BFunc) : Prop := l.length ≤ maxLen ∧ ∀ f ∈ l, f.fits
def Blocks.fits (b : Blocks) : Prop := fitsFuncs b.funcs
theorem rel_list {α : Type} {l : List α} {f : α → List AV} {H : Know} {ι : Lay} {ex : Bool} {v : Value} (h : Rel H ι (.lst ex (l.map f)) v) :
    l.length ≤ maxLen ∧ ∀ x ∈ l, ∀ (j : Nat) (y : AV), (f x)[j]? = some y → ∃ u, Rel H noLay y u := by
  refine ⟨by have := lst_max h; simpa using this, fun x hx j y hy => ?_⟩
  obtain ⟨i, hi⟩ := List.mem_iff_getElem?.1 hx
  rcases h.lst_inv with ⟨h0, _⟩ | ⟨_, b, off, cap, sz, c, vals, _, _, _, _, hr, _⟩
  · rw [List.map_eq_nil_iff] at h0; subst h0; simp at hi
  · exact ⟨_, hr i (f x) j y (by rw [List.getElem?_map, hi]; rfl) hy⟩
theorem rel_ins {l : List Tac} {H : Know} {ι : Lay} {v : Value} (h : Rel H ι (insAV l) v) : fitsIns l := (rel_list h).1
theorem rel_blocks {l : List Block} {H : Know} {ι : Lay} {v : Value} (h : Rel H ι (blocksAV l) v) : fitsBlocks l := by
  obtain ⟨h1, h2⟩ := rel_list h
  exact ⟨h1, fun x hx => by obtain ⟨u, hu⟩ := h2 x hx 0 _ rfl; exact rel_ins hu⟩
theorem rel_part {cs : List AV} {H : Know} {ι : Lay} {v : Value} (h : Rel H ι (.agg cs) v) {j : Nat} {x : AV} (hj : cs[j]? = some x) : ∃ u, Rel H ι x u := by
  obtain ⟨us, _, hl, hr⟩ := h.agg_inv
  have hlt : j < us.size := by rw [← hl]; exact (List.getElem?_eq_some_iff.1 hj).1
  obtain ⟨u, hu⟩ := getElem?_some_of_lt hlt
  exact ⟨u, hr j x u hj hu⟩
theorem rel_bfunc {f : BFunc} {H : Know} {ι : Lay} {v : Value} (h : Rel H ι (.agg f.cells) v) : f.fits := by
  obtain ⟨u, hu⟩ := rel_part h (j := 1) rfl
  exact rel_blocks hu
/-- of a slot -/
theorem AGo.slot {P : Program} {s : AState} {Q : Exit → AState → Prop} {c : Code} (t : Nat) {x : AV} {φ : Prop} (ht : s.env t = some x) (hf : ∀ H ι v, Rel H ι x v → φ) (h : φ → AGo P c s Q) : AGo P c s Q :=
  AGo.fact (fun H ι a w hs => by obtain ⟨v, _, hv⟩ := hs.env t x ht; exact hf H ι v hv) h

theorem lt_of_idx {α : Type} {β : Type} {l : List α} {f : α → β} {k : Nat} (h : decide ((k : Int) < (((l.map f).length : Nat) : Int)) = true) : k < l.length := by simpa using h
theorem ge_of_idx {α : Type} {β : Type} {l : List α} {f : α → β} {k : Nat} (h : decide ((k : Int) < (((l.map f).length : Nat) : Int)) = false) : l.length ≤ k := by simpa using h

theorem Tac.eqCells (x y : Tac) : Sv.eqCells x.cells y.cells = some (decide (x = y)) := by
  have h : Sv.eqCells x.cells y.cells = some (x.op == y.op && (x.d == y.d && (x.a == y.a && (x.b == y.b && (x.k == y.k && (x.base == y.base && (x.size == y.size && (x.n == y.n && true)))))))) := rfl
  rw [h]
  congr 1
  obtain ⟨a1, a2, a3, a4, a5, a6, a7, a8⟩ := x
  obtain ⟨b1, b2, b3, b4, b5, b6, b7, b8⟩ := y
  rw [Bool.eq_iff_iff]
  simp [Tac.mk.injEq]

end Go.Proofs.Ytidfabbnobipkaa.Sv

namespace Go.Proofs.Ytidfabbnobipkaa.Sv
open Go
set_option linter.unusedVariables false

def setsOp (op : Int) : Bool := op == 1 || (op == 2 || (op == 3 || (op == 4 || (op == 6 || op == 8))))
def Tac.sets (t : Tac) : Int := bif setsOp t.op then t.d else -1
def use1 (op : Int) : Bool := op == 2 || (op == 5 || (op == 6 || op == 9))
def use2 (op : Int) : Bool := op == 3 || op == 7
def Tac.uses (t : Tac) : List Int := bif use1 t.op then [t.a] else bif use2 t.op then [t.a, t.b] else []
def within (i n : Int) : Bool := decide (0 ≤ i) && decide (i < n)
def baseOp (op : Int) : Bool := op == 4 || op == 5
def arrOp (op : Int) : Bool := op == 6 || op == 7
def Tac.want (t : Tac) : Tac where
  op := t.op
  d := bif setsOp t.op then t.d else 0
  a := bif use1 t.op || use2 t.op then t.a else 0
  b := bif use2 t.op then t.b else 0
  k := bif t.op == 3 then t.k else 0
  base := bif baseOp t.op || (arrOp t.op || t.op == 10) then t.base else 0
  size := bif arrOp t.op then t.size else 0
  n := bif t.op == 1 then t.n else 0
def Tac.same (x y : Tac) : Bool := x.op == y.op && (x.d == y.d && (x.a == y.a && (x.b == y.b && (x.k == y.k && (x.base == y.base && (x.size == y.size && (x.n == y.n && true)))))))
def Tac.rest (t : Tac) (f words : Int) : Bool :=
  bif t.op == 3 then decide (4 ≤ t.k) && decide (t.k ≤ 15)
  else bif baseOp t.op then within t.base words
  else bif arrOp t.op then decide (1 ≤ t.size) && (decide (t.size ≤ 4096) && (decide (0 ≤ t.base) && decide (t.base ≤ words - t.size)))
  else bif t.op == 10 then within t.base f
  else true
def Tac.fits (t : Tac) (f regs words : Int) : Bool :=
  decide (1 ≤ t.op) && (decide (t.op ≤ 10) && ((!setsOp t.op || within t.d regs) && (t.uses.all (fun r => within r regs) && (t.rest f words && t.same t.want))))
def Block.ends (b : Block) (blocks regs : Int) : Bool :=
  bif b.fin == 1 then within b.to blocks && (b.v == 0 && b.els == 0)
  else bif b.fin == 2 then within b.to blocks && (within b.els blocks && within b.v regs)
  else b.fin == 3 && (b.v == 0 && (b.to == 0 && b.els == 0))
def Block.ok (x : Block) (blocks regs number words : Int) : Bool := x.ends blocks regs && x.ins.all (fun t => t.fits number regs words)
def BFunc.one (f : BFunc) (number words : Int) : Bool :=
  decide (0 ≤ f.regs) && (decide (f.regs ≤ 4000) && (!f.blocks.isEmpty && f.blocks.all (fun x => x.ok f.blocks.length f.regs number words)))
def Blocks.right (b : Blocks) : Bool :=
  decide (0 ≤ b.words) && (decide (b.words ≤ 1048576) && (!b.funcs.isEmpty && b.funcs.zipIdx.all (fun p => p.1.one (p.2 : Int) b.words)))
def Block.count (x : Block) : Nat := 1 + x.ins.length
def BFunc.count (f : BFunc) : Nat := (f.blocks.map Block.count).sum
def Blocks.count (b : Blocks) : Nat := (b.funcs.map BFunc.count).sum
/-! ### loops that look at all elements -/
theorem all_succ {α : Type} {l : List α} {p : α → Bool} {k : Nat} {x : α} (hx : l[k]? = some x) (h : (l.take k).all p = true) (hp : p x = true) : (l.take (k + 1)).all p = true := by
  rw [take_succ_eq hx, List.all_append, h]; simp [hp]
theorem all_bad {α : Type} {l : List α} {p : α → Bool} {k : Nat} {x : α} (hx : l[k]? = some x) (hp : p x = false) : l.all p = false := by
  rw [Bool.eq_false_iff]
  intro h
  rw [List.all_eq_true.1 h x (List.mem_of_getElem? hx)] at hp
  cases hp
theorem all_end {α : Type} {l : List α} {p : α → Bool} {k : Nat} (h : (l.take k).all p = true) (hk : l.length ≤ k) : l.all p = true := by
  rwa [List.take_of_length_le hk] at h
theorem zipIdx_get {α : Type} {l : List α} {k : Nat} {x : α} (hx : l[k]? = some x) : l.zipIdx[k]? = some (x, k) := by
  rw [List.getElem?_zipIdx, hx]; simp
/-- no slice is longer than what 2^47 bytes hold -/
def big : Nat := 140737488355328
theorem Cert.ext' {c d : Cert} (h : c.same = d.same) : c = d := by cases c; cases d; simp_all
theorem BFunc.ext' {f g : BFunc} (h1 : f.regs = g.regs) (h2 : f.blocks = g.blocks) : f = g := by cases f; cases g; simp_all
theorem take_all {α : Type} {l l' : List α} {k : Nat} (h : l.take k = l'.take k) (h1 : l.length ≤ k) (h2 : l'.length ≤ k) : l = l' := by
  rwa [List.take_of_length_le h1, List.take_of_length_le h2] at h

end Go.Proofs.Ytidfabbnobipkaa.Sv

namespace Go.Proofs.Ytidfabbnobipkaa.Sv
open Go
set_option linter.unusedVariables false

def wdivide (op a b : Int) : Int × Int := bif b == 0 then (0, 14) else bif op == 7 then (IntKind.u32.wrap (a.tdiv b), 0) else (a.tmod b, 0)
def wshift (op a b : Int) : Int := bif decide (b > 31) then 0 else bif op == 12 then IntKind.u32.wrap (a * 2 ^ (min b.toNat IntKind.u32.bits)) else a.fdiv (2 ^ (min b.toNat IntKind.u32.bits))
def wcompare (op a b : Int) : Int := bif (op == 14 && decide (a < b)) || (op == 15 && a == b) then 1 else 0
def wapp (op a b : Int) : Int × Int :=
  bif op == 4 then (IntKind.u32.wrap (a + b), 0)
  else bif op == 5 then (IntKind.u32.wrap (a - b), 0)
  else bif op == 6 then (IntKind.u32.wrap (a * b), 0)
  else bif op == 7 || op == 8 then wdivide op a b
  else bif op == 9 then (IntKind.u32.wrap ((BitVec.ofInt IntKind.u32.bits a &&& BitVec.ofInt IntKind.u32.bits b).toNat), 0)
  else bif op == 10 then (IntKind.u32.wrap ((BitVec.ofInt IntKind.u32.bits a ||| BitVec.ofInt IntKind.u32.bits b).toNat), 0)
  else bif op == 11 then (IntKind.u32.wrap ((BitVec.ofInt IntKind.u32.bits a ^^^ BitVec.ofInt IntKind.u32.bits b).toNat), 0)
  else bif op == 12 || op == 13 then (wshift op a b, 0)
  else bif op == 14 || op == 15 then (wcompare op a b, 0)
  else (0, 1)
/-- a word -/
def isW (n : Int) : Prop := 0 ≤ n ∧ n < 4294967296

theorem isW_wrap (n : Int) : isW (IntKind.u32.wrap n) := by
  rw [IntKind.wrap_u32]; constructor <;> omega
theorem wapp_word {op a b : Int} (ha : isW a) (hb : isW b) : isW (wapp op a b).1 := by
  unfold wapp
  cases op == 4 <;> simp only [cond_true, cond_false] <;> try exact isW_wrap _
  cases op == 5 <;> simp only [cond_true, cond_false] <;> try exact isW_wrap _
  cases op == 6 <;> simp only [cond_true, cond_false] <;> try exact isW_wrap _
  cases op == 7 || op == 8
  · simp only [cond_false]
    cases op == 9 <;> simp only [cond_true, cond_false] <;> try exact isW_wrap _
    cases op == 10 <;> simp only [cond_true, cond_false] <;> try exact isW_wrap _
    cases op == 11 <;> simp only [cond_true, cond_false] <;> try exact isW_wrap _
    cases op == 12 || op == 13
    · simp only [cond_false]
      cases op == 14 || op == 15
      · simp only [cond_false]; constructor <;> omega
      · simp only [cond_true, wcompare]
        cases (op == 14 && decide (a < b)) || (op == 15 && a == b) <;> simp only [cond_true, cond_false] <;> constructor <;> omega
    · simp only [cond_true, wshift]
      cases decide (b > 31) <;> simp only [cond_true, cond_false]
      · cases op == 12 <;> simp only [cond_true, cond_false]
        · have hp : (0 : Int) < 2 ^ (min b.toNat IntKind.u32.bits) := Int.pow_pos (by omega)
          rw [Int.fdiv_eq_ediv_of_nonneg _ (Int.le_of_lt hp)]
          refine ⟨Int.ediv_nonneg ha.1 (Int.le_of_lt hp), ?_⟩
          have := Int.ediv_le_self (2 ^ (min b.toNat IntKind.u32.bits)) ha.1
          have := ha.2
          omega
        · exact isW_wrap _
      · constructor <;> omega
  · simp only [cond_true, wdivide]
    cases hz : b == 0 <;> simp only [cond_true, cond_false]
    · cases op == 7 <;> simp only [cond_true, cond_false]
      · rw [Int.tmod_eq_emod_of_nonneg ha.1]
        have hb0 : b ≠ 0 := by simpa using hz
        refine ⟨Int.emod_nonneg _ hb0, ?_⟩
        have := Int.emod_lt_of_pos a (show 0 < b by have := hb.1; omega)
        have := hb.2
        omega
      · exact isW_wrap _
    · constructor <;> omega

end Go.Proofs.Ytidfabbnobipkaa.Sv

namespace Go.Proofs.Ytidfabbnobipkaa.Sv
open Go
set_option linter.unusedVariables false

theorem isW_zero : isW 0 := by constructor <;> omega
section
variable {P : Program} {T : Nat → Option TyI} {o : Oper} {e : AEnv} {h : AHeap}
end

/-! ### rows that are filled from the beginning on -/
theorem fill_get {α : Type} {F : List α} {f : α → List AV} {z : List AV} {k n : Nat} (hF : F.length = n) (hk : k < n) : ((F.take k).map f ++ List.replicate (n - k) z)[0 + ((k : Nat) : Int).toNat]? = some z := by
  rw [Int.toNat_natCast, Nat.zero_add, List.getElem?_append_right (by simp; omega)]
  rw [List.getElem?_replicate, if_pos (by simp; omega)]
theorem fill_put {α : Type} {F : List α} {f : α → List AV} {z : List AV} {k n : Nat} {x : α} (hF : F.length = n) (hx : F[k]? = some x) : ((F.take k).map f ++ List.replicate (n - k) z).set (0 + ((k : Nat) : Int).toNat) (f x) = (F.take (k + 1)).map f ++ List.replicate (n - (k + 1)) z := by
  have hk : k < n := by rw [← hF]; exact (List.getElem?_eq_some_iff.1 hx).1
  have hl : ((F.take k).map f).length = k := by simp; omega
  rw [Int.toNat_natCast, Nat.zero_add, List.set_append, if_neg (by omega), hl, Nat.sub_self, take_succ_eq hx, List.map_append, List.append_assoc]
  congr 1
  obtain ⟨m, hm⟩ : ∃ m, n - k = m + 1 := ⟨n - k - 1, by omega⟩
  have hm2 : n - (k + 1) = m := by omega
  rw [hm, hm2]
  rfl
theorem fill_len {α : Type} {F : List α} {f : α → List AV} {z : List AV} {k n : Nat} (hF : F.length = n) (hk : k ≤ n) : n = ((F.take k).map f ++ List.replicate (n - k) z).length := by
  simp; omega
theorem fill_end {α : Type} {F : List α} {f : α → List AV} {z : List AV} {k n : Nat} (hF : F.length = n) (hk : n ≤ k) : ((((F.take k).map f ++ List.replicate (n - k) z).drop 0).take n) = F.map f := by
  rw [Nat.sub_eq_zero_of_le hk, List.drop_zero, List.replicate_zero, List.append_nil, List.take_of_length_le (by simp; omega), List.take_of_length_le (by omega)]

/-! ### folding -/
def insW (l : List Tac) : Prop := ∀ t ∈ l, isW t.n
def BFunc.mild (f : BFunc) : Prop := 0 ≤ f.regs ∧ f.regs ≤ 100000 ∧ f.blocks.length ≤ 100000 ∧ ∀ x ∈ f.blocks, x.ins.length ≤ 100000 ∧ insW x.ins
def boolCells (b : Bool) : List AV := [.bool b]
def BFunc.all (f : BFunc) : Cert := ⟨List.replicate f.blocks.length (List.replicate f.regs.toNat true)⟩

end Go.Proofs.Ytidfabbnobipkaa.Sv

namespace Go.Proofs.Ytidfabbnobipkaa.Sv
open Go Go.ChangeShapes Go.WideShapes Go.ChangeAt Go.RowKit
set_option linter.unusedVariables false
set_option linter.unusedSimpArgs false

def isI (n : Int) : Prop := -9223372036854775808 ≤ n ∧ n ≤ 9223372036854775807
theorem wf_u8 {n : Int} (h : (Lit.int .u8 n).wf = true) : 0 ≤ n ∧ n ≤ 255 := by
  simpa [Lit.wf, IntKind.min, IntKind.max, IntKind.signed, IntKind.bits] using h

structure Tac.Ok (t : Tac) : Prop where
  op : isI t.op
  d : isI t.d
  a : isI t.a
  b : isI t.b
  k : isI t.k
  base : isI t.base
  size : isI t.size
  n : isW t.n
structure Block.Ok (x : Block) : Prop where
  len : x.ins.length * 64 ≤ reachBytes
  ins : ∀ t ∈ x.ins, t.Ok
  fin : isI x.fin
  v : isI x.v
  to : isI x.to
  els : isI x.els
structure BFunc.Ok (f : BFunc) : Prop where
  regs : isI f.regs
  len : f.blocks.length * 56 ≤ reachBytes
  blocks : ∀ x ∈ f.blocks, x.Ok
structure Blocks.Ok (b : Blocks) : Prop where
  words : isI b.words
  len : b.funcs.length * 32 ≤ reachBytes
  funcs : ∀ f ∈ b.funcs, f.Ok

theorem BFunc.Ok.insW {f : BFunc} (h : f.Ok) {x : Block} (hx : x ∈ f.blocks) : insW x.ins := fun t ht => ((h.blocks x hx).ins t ht).n

section
variable {H : Type} {enc : TypeId × Value → H} {P : Program} {W : World} {T : Nat → Option TyI}

end

/-! ### what the guard gives -/
end Go.Proofs.Ytidfabbnobipkaa.Sv

namespace Go.Proofs.Ytidfabbnobipkaa
open Go.ChangeShapes Go.WideShapes Go.ChangeAt Go.RowKit Sv
set_option linter.unusedVariables false

theorem own' : ownKnob Try.prog.godebug = none := by kernel_rfl
theorem laidOut' : laidOutB Try.prog = true := by kernel_rfl
theorem bool' : Try.prog.underlying 4 = some .bool := by kernel_rfl

theorem okWide_cell {P : Program} {W : World} {T : Nat → Option TyI} {t u b0 : Nat} {v : Value} {i : TyI} (hT : TOk P T) (hi : T t = some i) (hk : i.k = .slice u) (h : Value.okWide P W .any b0 t v) : ∀ cs, v ≠ .agg cs := by
  obtain ⟨info, d, e1, e2, e3, e4, e5, e6⟩ := tyOf_spec (hT _ _ hi)
  have hd := tk_slice (P := P) (d := d) (e3 ▸ hk)
  subst hd
  obtain ⟨a, len, cap, rfl⟩ := okWide_slice e2 h
  intro cs h
  cases h

section
variable {H : Type} {enc : TypeId × Value → H} {W : World}
theorem decBytes : Dec enc Try.prog W 53 (fun l : List Int => [.lst false (l.map fun n => [.int .u8 n])]) (fun l => l.length * 1 ≤ reachBytes ∧ ∀ n ∈ l, (Lit.int .u8 n).wf = true) := Dec.slice' (j := ty5) tok rfl rfl rfl (Nat.zero_lt_succ _) (Dec.int' tok rfl rfl)
end

end Go.Proofs.Ytidfabbnobipkaa

namespace Go.Proofs.Ytidfabbnobipkaa.Sv
open Go
set_option linter.unusedVariables false
set_option linter.unusedSimpArgs false

section
variable {P : Program} {T : Nat → Option TyI} {o : Oper} {e : AEnv} {h : AHeap}

theorem q_makeFunc {f : Fn} {first captured : Array Operand} {xs cs : List AV} (ho : o.op = .makeFunc f first captured) (hx : lookAll e first.toList = some xs) (hc : lookAll e captured.toList = some cs) : QLoc P o e h [] (.fn f xs cs) := by
  intro H ι a w s hs g1 g2
  have hx' : lookAll s.env first.toList = some xs := by
    rw [lookAll_agree (e := e) (fun x hx => g1 x (by rw [ho]; simp [Op.operands]; exact .inl (by simpa using hx)))]; exact hx
  have hc' : lookAll s.env captured.toList = some cs := by
    rw [lookAll_agree (e := e) (fun x hx => g1 x (by rw [ho]; simp [Op.operands]; exact .inr (by simpa using hx)))]; exact hc
  have h1 := relAll_map hs hx'
  have h2 := relAll_map hs hc'
  refine ⟨.func f (first.map a.eval) (captured.map a.eval), .fn _ _ _ _ _ _ h1.1 h2.1 h1.2 h2.2, ?_⟩
  simp only [execOp, ho, Instr.makeFunc, Sem.run_bind, Sem.run_pure, Result.andThen_ok]

theorem relAll_append {H : Know} {ι : Lay} {xs ys : List AV} {us vs : Array Value} (h1 : RelAll H ι xs us) (h2 : RelAll H ι ys vs) : RelAll H ι (xs ++ ys) (us ++ vs) := by
  refine ⟨by simp [h1.1, h2.1], fun j x v g1 g2 => ?_⟩
  by_cases hj : j < xs.length
  · rw [List.getElem?_append_left hj] at g1
    rw [Array.getElem?_append_left (by rw [← h1.1]; exact hj)] at g2
    exact h1.2 j x v g1 g2
  · rw [List.getElem?_append_right (by omega)] at g1
    rw [Array.getElem?_append_right (by rw [← h1.1]; omega), ← h1.1] at g2
    exact h2.2 _ x v g1 g2

/-- A call of a function value by a contract that tells what becomes of the rows of L. -/
theorem o_callF {f : FuncId} {fn : Func} {x : Operand} {args : Array Operand} {tys : Array TypeId} {fs xs cs : List AV} {r : AV} {hc hw : AHeap} (L : List Nat) (W : List (Nat × AObj)) (ho : o.op = .call { callee := .value x, args := args, argTypes := tys }) (hfn : look e x = some (.fn (.func f) fs cs)) (hf : P.funcs[f]? = some fn) (hn : (fn.name == "runtime.NumGoroutine") = false) (hb : fn.body.isSome = true)
    (hx : lookAll e args.toList = some xs) (hxa : (fs ++ xs ++ cs).all (AV.avoid (mem L)) = true) (hL : AllL L fun b => ∃ q, h b = some q ∧ q.avoid (mem L) = true) (hW : W.all (fun p => mem L p.1) = true) (hres' : hres h L = hc)
    (hk : AllL L fun b => ∃ q, hw b = some q ∧ hputs h W b = some q ∧ q.avoid (mem L) = true) (hra : r.avoid (mem L) = true)
    (hcall : ACall P f (fs ++ xs ++ cs) hc (fun r' h' => r' = r ∧ HSub hw h')) : OLoc P o e h L W (some r) := by
  intro H ι a w s Q hs g1 g2
  have hx' : lookAll s.env args.toList = some xs := by
    rw [lookAll_agree (e := e) (fun x hx => g1 x (by rw [ho]; simp [Op.operands, Call.operands]; exact .inr (by simpa using hx)))]; exact hx
  have hfn' : look s.env x = some (.fn (.func f) fs cs) := by rw [g1 x (by rw [ho]; simp [Op.operands, Call.operands]), hfn]
  have hvf := look_rel hs hfn'
  obtain ⟨us, vs, hve, k1, k2, k3, k4⟩ := hvf.fn_inv
  have hraa := relAll_append (relAll_append ⟨k1, k3⟩ (relAll_map hs hx')) ⟨k2, k4⟩
  have hra' : RelAll H (lcut ι (mem L)) (fs ++ xs ++ cs) (us ++ args.map a.eval ++ vs) := ⟨hraa.1, fun j x v h1 h2 => avoid_rel (hraa.2 j x v h1 h2) (all_get hxa h1)⟩
  have hLs : ∀ b ∈ L, ∃ q, s.h b = some q ∧ q.avoid (mem L) = true := fun b hb => by rw [g2 b hb]; exact hL.get b hb
  have hres2 : hres s.h L = hc := by
    rw [← hres']
    funext b
    unfold hres
    cases e : mem L b with
    | true => simp only [cond_true]; exact g2 b (mem_iff.1 e)
    | false => rfl
  have hrc : HeapRel H (lcut ι (mem L)) (hres s.h L) w := by
    have key : ∀ b o, hres s.h L b = some o → o.alive = true → b ∈ L ∧ s.h b = some o := fun b o h1 h2 => by
      unfold hres at h1
      cases e : mem L b with
      | true => rw [e] at h1; exact ⟨mem_iff.1 e, h1⟩
      | false => rw [e] at h1; cases h1; cases h2
    refine ⟨hs.heap.know, fun b hb => ?_, fun b o h1 h2 => ?_, fun b b' o o' r r' h1 h2 h3 h4 h5 h6 => ?_⟩
    · unfold hres at hb
      unfold lcut
      cases e : mem L b with
      | true => rw [e] at hb; exact hs.heap.free b hb
      | false => rfl
    · obtain ⟨k1, k2⟩ := key b o h1 h2
      obtain ⟨r, r1, r2, r3⟩ := hs.heap.obj b o k2 h2
      obtain ⟨q, q1, q2⟩ := hLs b k1
      rw [k2] at q1; cases q1
      exact ⟨r, by rw [lcut_lt (mem_iff.2 k1)]; exact r1, objOk_cut r2 q2, r3⟩
    · exact hs.heap.inj b b' o o' r r' (key b o h1 h2).2 h2 (key b' o' h3 h4).2 h4 (lcut_some h5) (lcut_some h6)
  have hcalls := hcall H (lcut ι (mem L)) w _ hra' (hres2 ▸ hrc)
  have hexec : (execOp a.eval o).run P w = .ok (.enter f (us ++ args.map a.eval ++ vs)) w := by
    simp only [execOp, ho, resolve, hve, Deferred.ofValue, invoke, Sem.run_bind, Sem.run_pure, Result.andThen_ok, run_callFunc hf hn hb]
  unfold Oper.wp
  rw [hexec]
  refine hcalls.mono fun en w' hh => ?_
  obtain ⟨v, r', h', H', ι', rfl, ⟨rfl, hsub⟩, k1, k2, k3⟩ := hh
  have hk' : ∀ b ∈ L, ∃ q, h' b = some q ∧ hputs s.h W b = some q ∧ q.avoid (mem L) = true := fun b hb => by
    obtain ⟨q, q1, q2, q3⟩ := hk.get b hb
    exact ⟨q, hsub b q q1, by rw [hputs_agree (g2 b hb)]; exact q2, q3⟩
  obtain ⟨u1, u2⟩ := call_mix hs.heap hLs (fun p hp => mem_iff.1 (List.all_eq_true.1 hW p hp)) hk' k2 (hres2.symm ▸ k3)
  refine ⟨v, H', _, rfl, fun x ex => ?_, u1, u2⟩
  cases ex
  refine (avoid_rel k1 hra).mono (KLe.refl _) fun b r e => ?_
  by_cases hb : b ∈ L
  · exact ⟨r, by simp only [lmix, mem_iff.2 hb, cond_true]; exact lcut_some e, .inl rfl⟩
  · have : mem L b = false := by cases e : mem L b with | false => rfl | true => exact absurd (mem_iff.1 e) hb
    simp only [lcut, this, cond_false] at e; cases e

/-- x[:m] of a slice from its row's beginning on -/
theorem q_slice_ref (hT : TOk P T) {t : TypeId} {x y : Operand} {b n len m : Nat} {p : Bool} {sz : Nat} {es : List (List AV)} {i j : TyI} {u : Nat} {k : IntKind} {z : Int} (ho : o.op = .slice t x none (some y) none) (hx : look e x = some (.ref b n 0 len)) (hy : look e y = some (.int k z)) (ht : T t = some i) (hk : i.k = .slice u) (hj : T u = some j)
    (hb : h b = some (.row p sz es)) (hn : n = es.length) (hz : z = (m : Int)) (hm : m ≤ len) : QLoc P o e h [b] (.ref b n 0 m) := by
  intro H ι a w s hs g1 g2
  have hx' : look s.env x = some (.ref b n 0 len) := by rw [g1 x (by rw [ho]; simp [Op.operands]), hx]
  have hy' : look s.env y = some (.int k z) := by rw [g1 y (by rw [ho]; simp [Op.operands]), hy]
  have hb' : s.h b = some (.row p sz es) := by rw [g2 b (by simp), hb]
  subst hz
  obtain ⟨info, d, e1, e2, e3, e4, e5, e6⟩ := tyOf_spec (hT _ _ ht)
  obtain ⟨info', d', e1', e2', e3', e4', e5', e6'⟩ := tyOf_spec (hT _ _ hj)
  have hd := tk_slice (P := P) (d := d) (e3 ▸ hk)
  subst hd
  have hvx := look_rel hs hx'
  have hvy := (look_rel hs hy').int_inv
  generalize hva : a.eval x = va at hvx
  obtain ⟨r, hl, ⟨r1, r2, r3, r4, r5, r6⟩, r7⟩ := hs.heap.obj b _ hb' rfl
  have hrun : ∀ (ad : Option Addr) (cap : Nat), m ≤ cap → va = .slice ad len cap → (execOp a.eval o).run P w = .ok (.value (.slice (if cap = 0 then ad else ad.map (·.add (0 * j.size))) (m - 0) (cap - 0))) w := fun ad cap hcap hv => by
    simp only [execOp, ho, hva, hv, hvy, Instr.sliceAt, Instr.slice, Option.map_none, Option.map_some, Sem.run_bind, run_underlying' e2, Result.andThen_ok, run_isz e1', e4', Sem.run_pure]
    simp [Instr.sliceBounds, Instr.sliceBound, asIntOf, hcap]
  by_cases hsol : r.csz = 0
  · obtain ⟨hl0, ad, rfl, hsp⟩ := hvx.ref_dry hl (by omega) hsol (by omega)
    subst hl0
    obtain rfl : m = 0 := by omega
    refine ⟨_, ?_, hrun ad 0 (Nat.le_refl _) rfl⟩
    simpa using hvx
  · obtain ⟨hlen, cap, rfl, hlc, hcap, hmax⟩ := hvx.ref_live hl (by omega) hsol
    refine ⟨_, ?_, hrun _ cap (by omega) rfl⟩
    have := Rel.refL (H := H) ι b n 0 m cap r hl (by omega) (by omega) (by omega) hcap hmax
    have hadd : (if cap = 0 then some (⟨r.rb, 0 * r.sz, none⟩ : Addr) else (some (⟨r.rb, 0 * r.sz, none⟩ : Addr)).map (·.add (0 * j.size))) = some ⟨r.rb, 0 * r.sz, none⟩ := by
      split
      · rfl
      · simp [Addr.add]
    rw [hadd]
    simpa using this

/-- put in the place behind a slice that is not its row's end -/
theorem o_appendIn (hT : TOk P T) {t t' : TypeId} {x y : Operand} {i i' j : TyI} {u u' : Nat} {b n len : Nat} {p : Bool} {sz : Nat} {es : List (List AV)} {cs2 : List AV} {q : AV} {R : List Nat}
    (ho : o.op = .call { callee := .builtin .append, args := #[x, y], argTypes := #[t, t'] }) (hx : look e x = some (.ref b n 0 len)) (hy : look e y = some q) (hi : T t = some i) (hk : i.k = .slice u) (hj : T u = some j) (hi' : T t' = some i') (hk' : i'.k = .slice u')
    (hb : h b = some (.row p sz es)) (hn : n = es.length) (hlt : len < n) (hsz : sz = j.size) (hp : 0 < j.size)
    (hsrc : SrcOf h q R [cs2]) (hu2 : cs2.length = sz) (hpure : p = true → cs2.all AV.isPure1 = true) :
    OLoc P o e h (b :: R) [(b, .row p sz (es.set len cs2))] (some (.ref b n 0 (len + 1))) := by
  intro H ι a w s Q hs g1 g2
  have hx' : look s.env x = some (.ref b n 0 len) := by rw [g1 x (by rw [ho]; simp [Op.operands, Call.operands]), hx]
  have hy' : look s.env y = some q := by rw [g1 y (by rw [ho]; simp [Op.operands, Call.operands]), hy]
  have hb' : s.h b = some (.row p sz es) := by rw [g2 b (by simp), hb]
  have hsrc' := hsrc.agree (h' := s.h) (fun c hc => g2 c (by simp [hc]))
  obtain ⟨info, d, e1, e2, e3, e4, e5, e6⟩ := tyOf_spec (hT _ _ hi)
  obtain ⟨infou, du, f1, f2, f3, f4, f5, f6⟩ := tyOf_spec (hT _ _ hj)
  obtain ⟨info', d', e1', e2', e3', e4', e5', e6'⟩ := tyOf_spec (hT _ _ hi')
  have hd := tk_slice (P := P) (d := d) (e3 ▸ hk)
  subst hd
  have hd' := tk_slice (P := P) (d := d') (e3' ▸ hk')
  subst hd'
  subst hsz; subst hn
  obtain ⟨r, hl, ⟨r1, r2, r3, r4, r5, r6⟩, r7⟩ := hs.heap.obj b _ hb' rfl
  have hvx := look_rel hs hx'
  have hvy := look_rel hs hy'
  generalize hva : a.eval x = va at hvx
  generalize hvb : a.eval y = vb at hvy
  have hexec : ∀ (v : Value) (w' : World), (Builtin.append_ #[t, t'] o.type #[va, vb]).run P w = .ok v w' → (execOp a.eval o).run P w = .ok (.value v) w' := fun v w' hrun => by
    simp only [execOp, ho, resolve, invoke, builtin, Sem.run_bind, Sem.run_pure, Result.andThen_ok, List.map_toArray, List.map_cons, List.map_nil, hva, hvb, hrun]
  obtain ⟨news, hsrcw, hnews⟩ := src_of hs.heap hsrc' hvy e2' hp (by intro cs h; simp at h; subst h; exact hu2) w rfl
  rw [← f4] at hsrcw
  have hnl : news.length = j.size := by rw [hsrcw.newsLen, f4]; simp
  have hsol : r.csz ≠ 0 := fun h0 => by
    have : 0 < es.length * j.size := Nat.mul_pos (by omega) hp
    omega
  obtain ⟨hlen, cap, hvv, hlc, hcap, hmax⟩ := hvx.ref_live hl (by omega) hsol
  obtain ⟨c, TT, w1, w2, w3⟩ := r6 hsol
  simp only [Nat.zero_mul, Nat.zero_add] at hcap hvv
  have hcs : c.size = cap * j.size := by rw [w2, ← hcap, r1]
  have hmul : (len + 1) * j.size ≤ es.length * j.size := Nat.mul_le_mul_right _ (by omega)
  have hmul' : (len + 1) * j.size = len * j.size + j.size := by rw [Nat.add_mul, Nat.one_mul]
  have hroom : len + 1 ≤ cap := by
    refine Nat.le_of_mul_le_mul_right (c := j.size) ?_ hp
    rw [← hcs, w2]; omega
  have hfit : len * infou.size + news.length ≤ c.size := by rw [hnl, f4, w2]; omega
  have hrun := run_append_room_row (P := P) (w := w) t t' o.type u infou e2 f1 r.rb len cap c TT w1 vb 1 news hsrcw hroom hfit
  rw [f4] at hrun hfit
  generalize hC : (c.toList.take (len * j.size) ++ news ++ c.toList.drop (len * j.size + news.length)).toArray = C at *
  have hCs : C.size = c.size := by rw [← hC]; simp; omega
  have hget : ∀ k : Nat, C[k]? = if k < len * j.size then c[k]? else if k < len * j.size + j.size then news[k - len * j.size]? else c[k]? := fun k => by
    rw [← hC]
    simp only [List.getElem?_toArray]
    have hm : (c.toList.take (len * j.size)).length = len * j.size := by simp; omega
    by_cases h1 : k < len * j.size
    · rw [if_pos h1, List.getElem?_append_left (by rw [List.length_append, hm]; omega), List.getElem?_append_left (by rw [hm]; exact h1), List.getElem?_take_of_lt h1, Array.getElem?_toList]
    · rw [if_neg h1]
      by_cases h2 : k < len * j.size + j.size
      · rw [if_pos h2, List.getElem?_append_left (by rw [List.length_append, hm, hnl]; exact h2), List.getElem?_append_right (by rw [hm]; omega), hm]
      · rw [if_neg h2, List.getElem?_append_right (by rw [List.length_append, hm, hnl]; omega), List.length_append, hm, hnl, List.getElem?_drop, Array.getElem?_toList]
        congr 1; omega
  have hll : LLe ι (lput ι b r) := LLe.put fun r' hr' => by rw [hl] at hr'; cases hr'; exact .inl rfl
  have hlens : ∀ (i : Nat) (cs : List AV), (es.set len cs2)[i]? = some cs → cs.length = j.size := fun i cs hc => by
    by_cases hi : len = i
    · subst hi; rw [List.getElem?_set_self hlt] at hc; cases hc; exact hu2
    · rw [List.getElem?_set_ne hi] at hc; exact r5 i cs hc
  have hrow : rowCells H (bif p then noLay else lput ι b r) j.size (es.set len cs2) C := by
    refine ⟨hlens, fun i cs k y hc hk => ?_⟩
    have hkk : k < j.size := by
      rw [← hlens i cs hc]
      exact (List.getElem?_eq_some_iff.1 hk).1
    have hi : i < es.length := by
      have := (List.getElem?_eq_some_iff.1 hc).1
      simpa using this
    by_cases hil : len = i
    · subst hil
      rw [List.getElem?_set_self hlt] at hc; cases hc
      obtain ⟨v, k1, k2, k3⟩ := hnews 0 cs2 k y rfl hk
      rw [Nat.zero_mul, Nat.zero_add] at k1
      refine ⟨v, by rw [hget, if_neg (by omega), if_pos (by omega), Nat.add_sub_cancel_left]; exact k1, ?_, k3⟩
      cases p with
      | false => exact k2.mono (KLe.refl _) hll
      | true => exact pure1_rel (List.all_eq_true.1 (hpure rfl) y (List.mem_of_getElem? hk)) k2
    · rw [List.getElem?_set_ne hil] at hc
      obtain ⟨v, k1, k2, k3⟩ := w3.2 i cs k y hc hk
      refine ⟨v, ?_, ?_, k3⟩
      · rw [hget]
        by_cases h1 : i < len
        · have : (i + 1) * j.size ≤ len * j.size := Nat.mul_le_mul_right _ (by omega)
          rw [Nat.add_mul, Nat.one_mul] at this
          rw [if_pos (by omega)]; exact k1
        · have : (len + 1) * j.size ≤ i * j.size := Nat.mul_le_mul_right _ (by omega)
          rw [if_neg (by omega), if_neg (by omega)]; exact k1
      · cases p with
        | false => exact k2.mono (KLe.refl _) hll
        | true => exact k2
  obtain ⟨u1, u2⟩ := hs.heap.upd (w' := w.setRow r.rb C) (o0 := .row p j.size es) (o' := .row p j.size (es.set len cs2)) (r' := r) hb' rfl
    (.inr ⟨r, hl, rfl, .inl rfl⟩) (fun _ => .inr ⟨r, hl, rfl, hsol, rfl⟩)
    (fun rb hlt' hne => setRow_other w r.rb rb _ (hne r hl rfl hsol)) (by simp) (setRow_os _ _ _) (setRow_out _ _ _)
    ⟨r1, r2, by simp [r3], by simpa using r4, hrow.1, fun _ => ⟨C, TT, setRow_heap w r.rb c C TT _ w1, hCs.trans w2, hrow⟩⟩
  have hex := hexec _ _ (hvv ▸ hrun)
  unfold Oper.wp
  rw [hex]
  refine ⟨_, H, _, rfl, (fun x ex => ?_), u1, u2⟩
  cases ex
  have := Rel.refL (H := H) (lput ι b r) b es.length 0 (len + 1) cap _ (lput_same _ _ _) r3 (by omega) hroom (by rw [Nat.zero_add]; exact hcap) hmax
  simpa using this
/-- what a stack's row is behind a push -/
def pushE (es : List (List AV)) (len : Nat) (cs : List AV) : List (List AV) := if len < es.length then es.set len cs else es ++ [cs]
theorem pushE_take {es : List (List AV)} {len : Nat} {cs : List AV} (h : len ≤ es.length) : (pushE es len cs).take (len + 1) = es.take len ++ [cs] := by
  unfold pushE
  split
  · rename_i hlt
    rw [take_succ_eq (List.getElem?_set_self hlt), List.take_set_of_le (Nat.le_refl _)]
  · have : len = es.length := by omega
    subst this
    rw [List.take_of_length_le (by simp), List.take_of_length_le (Nat.le_refl _)]
theorem pushE_len {es : List (List AV)} {len : Nat} {cs : List AV} (h : len ≤ es.length) : len + 1 ≤ (pushE es len cs).length := by
  unfold pushE
  split
  · simp; omega
  · simp; omega
theorem o_push (hT : TOk P T) {t t' : TypeId} {x y : Operand} {i i' j : TyI} {u u' : Nat} {b n len : Nat} {p : Bool} {sz : Nat} {es : List (List AV)} {cs2 : List AV} {q : AV} {R : List Nat}
    (ho : o.op = .call { callee := .builtin .append, args := #[x, y], argTypes := #[t, t'] }) (hx : look e x = some (.ref b n 0 len)) (hy : look e y = some q) (hi : T t = some i) (hk : i.k = .slice u) (hj : T u = some j) (hi' : T t' = some i') (hk' : i'.k = .slice u')
    (hb : h b = some (.row p sz es)) (hn : n = es.length) (hlt : len ≤ n) (hsz : sz = j.size) (hz : j.zero.length = j.size) (hp : 0 < j.size)
    (hsrc : SrcOf h q R [cs2]) (hu2 : cs2.length = sz) (hpure : p = true → cs2.all AV.isPure1 = true) (hby : (es.length + 1) * j.bytes ≤ 140737488355328) (hml : es.length + 1 ≤ maxLen) :
    OLoc P o e h (b :: R) [(b, .row p sz (pushE es len cs2))] (some (.ref b (pushE es len cs2).length 0 (len + 1))) := by
  by_cases h1 : len < es.length
  · have e1 : pushE es len cs2 = es.set len cs2 := by simp [pushE, h1]
    rw [e1]
    have := o_appendIn hT ho hx hy hi hk hj hi' hk' hb hn (by omega) hsz hp hsrc hu2 hpure
    rw [List.length_set, ← hn]; exact this
  · have e1 : pushE es len cs2 = es ++ [cs2] := by simp [pushE, h1]
    have hl : len = n := by omega
    subst hl
    rw [e1]
    have := o_append hT ho hx hy hi hk hj hi' hk' hb hn hsz hz hp hsrc (by intro cs h; simp at h; subst h; exact hu2) (fun hp cs h => by simp at h; subst h; exact hpure hp) (m := 1) rfl hby hml
    rw [show (es ++ [cs2]).length = len + 1 by simp [hn]]; exact this
end
end Go.Proofs.Ytidfabbnobipkaa.Sv

namespace Go.Proofs.Ytidfabbnobipkaa.Sv
open Go
set_option linter.unusedVariables false
set_option linter.unusedSimpArgs false

section
variable {P : Program} {T : Nat → Option TyI} {o : Oper} {e : AEnv} {h : AHeap}

/-- l[:len(l):len(l)] -/
theorem q_slice3 (hT : TOk P T) {t : TypeId} {x y y' : Operand} {ex : Bool} {es : List (List AV)} {i j : TyI} {u : Nat} {k k' : IntKind} (ho : o.op = .slice t x none (some y) (some y')) (hx : look e x = some (.lst ex es)) (hy : look e y = some (.int k (es.length : Int))) (hy' : look e y' = some (.int k' (es.length : Int))) (ht : T t = some i) (hk : i.k = .slice u) (hj : T u = some j) :
    QLoc P o e h [] (.lst true es) := by
  intro H ι a w s hs g1 g2
  have hx' : look s.env x = some (.lst ex es) := by rw [g1 x (by rw [ho]; simp [Op.operands]), hx]
  have hy1 : look s.env y = some (.int k (es.length : Int)) := by rw [g1 y (by rw [ho]; simp [Op.operands]), hy]
  have hy2 : look s.env y' = some (.int k' (es.length : Int)) := by rw [g1 y' (by rw [ho]; simp [Op.operands]), hy']
  obtain ⟨info, d, e1, e2, e3, e4, e5, e6⟩ := tyOf_spec (hT _ _ ht)
  obtain ⟨info', d', e1', e2', e3', e4', e5', e6'⟩ := tyOf_spec (hT _ _ hj)
  have hd := tk_slice (P := P) (d := d) (e3 ▸ hk)
  subst hd
  have hvx := look_rel hs hx'
  have hv1 := (look_rel hs hy1).int_inv
  have hv2 := (look_rel hs hy2).int_inv
  generalize hva : a.eval x = va at hvx
  have hrun : ∀ (ad : Option Addr) (cap : Nat), es.length ≤ cap → va = .slice ad es.length cap → (execOp a.eval o).run P w = .ok (.value (.slice (if es.length = 0 then ad else ad.map (·.add (0 * j.size))) (es.length - 0) (es.length - 0))) w := fun ad cap hcap hv => by
    simp only [execOp, ho, hva, hv, hv1, hv2, Instr.sliceAt, Instr.slice, Option.map_none, Option.map_some, Sem.run_bind, run_underlying' e2, Result.andThen_ok, run_isz e1', e4', Sem.run_pure]
    simp [Instr.sliceBounds, Instr.sliceBound, asIntOf, hcap]
  rcases hvx.lst_inv with ⟨rfl, ad, cap, rfl, h1, h2, h3, h4⟩ | ⟨hne, b, off, cap, sz, c, vals, rfl, hb, hsz', hv, hr, hc1, hex, hcap, hmax⟩
  · refine ⟨_, ?_, hrun ad cap (Nat.zero_le _) rfl⟩
    simp only [List.length_nil, if_true, Nat.sub_zero]
    exact .lst0 _ _ _ _ (fun _ => rfl) (Nat.zero_le _) (fun _ => rfl) trivial
  · refine ⟨_, ?_, hrun _ cap hcap rfl⟩
    have hl : es.length ≠ 0 := fun h => hne (List.eq_nil_of_length_eq_zero h)
    rw [if_neg hl]
    have hadd : (some (⟨b, off, none⟩ : Addr)).map (·.add (0 * j.size)) = some ⟨b, off, none⟩ := by simp [Addr.add]
    rw [hadd, Nat.sub_zero]
    exact .lst ι true es b off es.length sz c vals hne hb hsz' hv hr hc1 (fun _ => rfl) (Nat.le_refl _) (by omega)

/-- a slice without room, as it came, as long as nothing was put behind it; else a row of one's own -/
def jAV (f : Bool) (b : Nat) (es : List (List AV)) : AV := bif f then .lst true es else .ref b es.length 0 es.length
def jObj (f : Bool) (sz : Nat) (es : List (List AV)) : AObj := bif f then .free else .row true sz es

theorem o_appendJ (hT : TOk P T) {t t' : TypeId} {x y : Operand} {i i' j : TyI} {u u' : Nat} {f ex2 : Bool} {sz : Nat} {es es2 : List (List AV)} (b : Nat)
    (ho : o.op = .call { callee := .builtin .append, args := #[x, y], argTypes := #[t, t'] }) (hx : look e x = some (jAV f b es)) (hy : look e y = some (.lst ex2 es2)) (hi : T t = some i) (hk : i.k = .slice u) (hj : T u = some j) (hi' : T t' = some i') (hk' : i'.k = .slice u')
    (hb : h b = some (jObj f sz es)) (hsz : sz = j.size) (hz : j.zero.length = j.size) (hp : 0 < j.size)
    (hu : ∀ cs ∈ es, cs.length = sz) (hpu : ∀ cs ∈ es, cs.all AV.isPure1 = true) (hu2 : ∀ cs ∈ es2, cs.length = sz) (hpure : ∀ cs ∈ es2, cs.all AV.isPure1 = true)
    (hby : (es.length + es2.length) * j.bytes ≤ 140737488355328) (hml : es.length + es2.length ≤ maxLen) :
    OLoc P o e h [b] [(b, jObj (f && es2.isEmpty) sz (es ++ es2))] (some (jAV (f && es2.isEmpty) b (es ++ es2))) := by
  cases f with
  | false =>
    have := o_append hT ho hx hy hi hk hj hi' hk' hb rfl hsz hz hp (.lst ex2 es2) hu2 (fun _ => hpure) (m := es2.length) rfl hby hml
    simpa [jAV, jObj] using this
  | true =>
    simp only [jAV, jObj, cond_true] at hx hb
    cases hes2 : es2 with
    | nil =>
      subst hes2
      simp only [List.isEmpty_nil, Bool.and_self, List.append_nil, jObj, jAV, cond_true]
      intro H ι a w s Q hs g1 g2
      have hx' : look s.env x = some (.lst true es) := by rw [g1 x (by rw [ho]; simp [Op.operands, Call.operands]), hx]
      have hy' : look s.env y = some (.lst ex2 []) := by rw [g1 y (by rw [ho]; simp [Op.operands, Call.operands]), hy]
      have hb' : s.h b = some .free := by rw [g2 b (by simp), hb]
      obtain ⟨info, d, e1, e2, e3, e4, e5, e6⟩ := tyOf_spec (hT _ _ hi)
      obtain ⟨infou, du, f1, f2, f3, f4, f5, f6⟩ := tyOf_spec (hT _ _ hj)
      obtain ⟨info', d', e1', e2', e3', e4', e5', e6'⟩ := tyOf_spec (hT _ _ hi')
      have hd := tk_slice (P := P) (d := d) (e3 ▸ hk)
      subst hd
      have hd' := tk_slice (P := P) (d := d') (e3' ▸ hk')
      subst hd'
      have hvx := look_rel hs hx'
      have hvy := look_rel hs hy'
      generalize hva : a.eval x = va at hvx
      generalize hvb : a.eval y = vb at hvy
      obtain ⟨news, hsrcw, hnews⟩ := src_of hs.heap (SrcOf.lst ex2 []) hvy e2' hp (by intro cs h; cases h) w rfl
      rw [← f4] at hsrcw
      have hnn : news = [] := List.eq_nil_of_length_eq_zero (by rw [hsrcw.newsLen]; simp)
      subst hnn
      have hsame : hputs s.h [(b, .free)] = s.h := by
        funext c
        by_cases hc : c = b
        · subst hc; simp [hputs, hput_same, hb']
        · simp [hputs, hput_ne _ _ hc]
      have hexec : ∀ (v : Value) (w' : World), (Builtin.append_ #[t, t'] o.type #[va, vb]).run P w = .ok v w' → (execOp a.eval o).run P w = .ok (.value v) w' := fun v w' hrun => by
        simp only [execOp, ho, resolve, invoke, builtin, Sem.run_bind, Sem.run_pure, Result.andThen_ok, List.map_toArray, List.map_cons, List.map_nil, hva, hvb, hrun]
      have hrun : (Builtin.append_ #[t, t'] o.type #[va, vb]).run P w = .ok va w := by
        rcases hvx.lst_inv with ⟨rfl, ad, cap, rfl, h1, h2, h3, h4⟩ | ⟨hne, b0, off, cap, sz0, c, vals, rfl, hb0, hsz', hv, hr, hc1, hex, hcap, hmax⟩
        · have := h1 rfl
          subst this
          exact run_append_dry t t' o.type u infou e2 f1 ad vb hsrcw
        · have hsrc0 : Src P infou.size t' vb 0 [] w := hsrcw
          have h1 := hsrc0.len
          have h2 := hsrc0.cells
          rcases hsrcw.kind with ⟨e', hk⟩ | hk <;> simp [Builtin.append_, run_underlying e2, run_underlying hk, sizeOf, typeInfo, f1, h1, h2, hcap, storeCells]
      unfold Oper.wp
      rw [hexec _ _ hrun, hsame]
      exact ⟨va, H, ι, rfl, (fun x ex => by have := Option.some.inj ex; subst this; exact hvx), hs.heap, Step.refl _ _ _ _⟩
    | cons y0 r0 =>
      rw [← hes2]
      have hpos : 0 < es2.length := by rw [hes2]; simp
      have hie : es2.isEmpty = false := by rw [hes2]; rfl
      simp only [hie, Bool.and_false, jObj, jAV, cond_false]
      subst hsz
      refine OLoc.of_new hb (by simp) hp fun H ι a w s hs g1 g2 => ?_
      have hx' : look s.env x = some (.lst true es) := by rw [g1 x (by rw [ho]; simp [Op.operands, Call.operands]), hx]
      have hy' : look s.env y = some (.lst ex2 es2) := by rw [g1 y (by rw [ho]; simp [Op.operands, Call.operands]), hy]
      obtain ⟨info, d, e1, e2, e3, e4, e5, e6⟩ := tyOf_spec (hT _ _ hi)
      obtain ⟨infou, du, f1, f2, f3, f4, f5, f6⟩ := tyOf_spec (hT _ _ hj)
      obtain ⟨info', d', e1', e2', e3', e4', e5', e6'⟩ := tyOf_spec (hT _ _ hi')
      have hd := tk_slice (P := P) (d := d) (e3 ▸ hk)
      subst hd
      have hd' := tk_slice (P := P) (d := d') (e3' ▸ hk')
      subst hd'
      obtain ⟨z, hz1, hz2⟩ := zero_spec f6 hz hp
      have hzl : z.cells.size = j.size := by rw [← hz]; simpa using (allAV_rel (H := H) (ι := noLay) hz2).1.symm
      have hvx := look_rel hs hx'
      have hvy := look_rel hs hy'
      generalize hva : a.eval x = va at hvx
      generalize hvb : a.eval y = vb at hvy
      have hexec : ∀ (v : Value) (w' : World), (Builtin.append_ #[t, t'] o.type #[va, vb]).run P w = .ok v w' → (execOp a.eval o).run P w = .ok (.value v) w' := fun v w' hrun => by
        simp only [execOp, ho, resolve, invoke, builtin, Sem.run_bind, Sem.run_pure, Result.andThen_ok, List.map_toArray, List.map_cons, List.map_nil, hva, hvb, hrun]
      obtain ⟨news, hsrcw, hnews⟩ := src_of hs.heap (SrcOf.lst ex2 es2) hvy e2' hp hu2 w rfl
      rw [← f4] at hsrcw
      have hnl : news.length = es2.length * j.size := by rw [hsrcw.newsLen, f4]
      have h63 : ((es.length + es2.length : Nat) : Int) ≤ 9223372036854775807 := by
        have := hml; simp only [maxLen] at this; omega
      -- what stands there already
      obtain ⟨base, olds, hv, hold, hol, holdr⟩ : ∃ (base : Option Addr) (olds : List Value), va = .slice base es.length es.length ∧ (Builtin.firstCells infou.size es.length (.slice base es.length es.length)).run P w.drew = .ok olds.toArray w.drew ∧ olds.length = es.length * j.size ∧
          (∀ (i : Nat) (cs : List AV) (k : Nat) (x : AV), es[i]? = some cs → cs[k]? = some x → ∃ v, olds[i * j.size + k]? = some v ∧ Rel H noLay x v ∧ x.cell1 = true) := by
        rcases hvx.lst_inv with ⟨rfl, ad, cap, rfl, h1, h2, h3, h4⟩ | ⟨hne, b0, off, cap, sz0, c, vals, rfl, hb0, hsz', hv, hr, hc1, hex, hcap, hmax⟩
        · have := h1 rfl
          subst this
          refine ⟨ad, [], rfl, ?_, by simp, fun i cs k x h1 => by simp at h1⟩
          cases ad <;> simp [Builtin.firstCells, loadCells, loadCellsFrom]
        · have hcl := hex rfl
          subst hcl
          obtain ⟨TT, fr, hbw⟩ := hs.heap.know b0 c hb0
          have hss : sz0 = j.size := by
            cases es with
            | nil => exact absurd rfl hne
            | cons cs es => rw [← hsz' 0 cs (by simp), hu cs (by simp)]
          subst hss
          have hget : ∀ k, k < es.length * j.size → ∃ v, c[off + k]? = some v := fun k hk => by
            have hi : k / j.size < es.length := Nat.div_lt_of_lt_mul (by rw [Nat.mul_comm]; exact hk)
            have hm : k % j.size < j.size := Nat.mod_lt _ hp
            have hjj : k / j.size * j.size + k % j.size = k := by rw [Nat.mul_comm]; exact Nat.div_add_mod k j.size
            have h1 : es[k / j.size]? = some es[k / j.size] := List.getElem?_eq_getElem hi
            have h2 : (es[k / j.size])[k % j.size]? = some ((es[k / j.size])[k % j.size]'(by rw [hsz' _ _ h1]; exact hm)) := List.getElem?_eq_getElem _
            have := hv _ _ _ _ h1 h2
            rw [Nat.add_assoc, hjj] at this
            exact ⟨_, this⟩
          have hfit : off + es.length * j.size ≤ c.size := by
            rcases Nat.eq_zero_or_pos (es.length * j.size) with h0 | h0
            · have := List.length_pos_iff.2 hne
              have := Nat.mul_pos this hp
              omega
            · obtain ⟨v, hv⟩ := hget (es.length * j.size - 1) (by omega)
              have := (Array.getElem?_eq_some_iff.1 hv).1
              omega
          have hg : ∀ k, k < es.length * j.size → ((c.toList.drop off).take (es.length * j.size))[k]? = c[off + k]? := fun k hk => by
            rw [List.getElem?_take_of_lt hk, List.getElem?_drop, Array.getElem?_toList]
          have hl : ((c.toList.drop off).take (es.length * j.size)).length = es.length * j.size := by simp; omega
          refine ⟨_, (c.toList.drop off).take (es.length * j.size), rfl, ?_, hl, fun i cs k x h1 h2 => ?_⟩
          · rw [f4]
            refine run_firstCells_some (P := P) w.drew j.size es.length ⟨b0, off, none⟩ es.length es.length _ hl (fun k v hk => ?_)
            have hkl : k < es.length * j.size := by
              have := (List.getElem?_eq_some_iff.1 hk).1
              omega
            rw [hg k hkl] at hk
            rw [add_mk, World.cell?_drew, cell_row hbw]
            exact hk
          · have hi : i < es.length := (List.getElem?_eq_some_iff.1 h1).1
            have hkk : k < j.size := by rw [← hsz' i cs h1]; exact (List.getElem?_eq_some_iff.1 h2).1
            have h3 := hv i cs k x h1 h2
            exact ⟨_, by rw [hg _ (mul_add_lt_mul hi hkk), ← Nat.add_assoc]; exact h3, hr i cs k x h1 h2, hc1 i cs k x h1 h2⟩
      have hfit : Builtin.nextslicecap (es.length + es2.length) es.length * infou.bytes ≤ 281474976710656 := growslice_fits (by omega) (by rw [f5]; exact hby)
      have hrun := run_append_grow_src (P := P) w t t' o.type u infou z e2 f1 hz1 base es.length es.length olds hold vb es2.length news hsrcw (by omega) h63 hfit
      have hge := grownCap_ge w (es.length + es2.length) es.length u
      have hcm : grownCap w (es.length + es2.length) es.length u ≤ maxLen := grownCap_le_maxLen w _ es.length u hml
      generalize hcc : grownCap w (es.length + es2.length) es.length u = nc at *
      generalize hC : (olds ++ news).toArray ++ Builtin.zeroCells z.cells (nc - (es.length + es2.length)) = C at *
      have hCs : C.size = nc * j.size := by
        rw [← hC, Array.size_append, size_zeroCells, hzl]
        simp only [List.size_toArray, List.length_append, hol, hnl, ← Nat.add_mul]
        congr 1; omega
      have hCg : ∀ k, k < olds.length + news.length → C[k]? = (olds ++ news)[k]? := fun k hk => by
        rw [← hC, Array.getElem?_append_left (by simp; omega)]
        simp
      have hnewsp : ∀ (i : Nat) (cs : List AV) (k : Nat) (y : AV), es2[i]? = some cs → cs[k]? = some y → ∃ v, news[i * j.size + k]? = some v ∧ Rel H noLay y v ∧ y.cell1 = true := fun i cs k y h1 h2 => by
        obtain ⟨v, k1, k2, k3⟩ := hnews i cs k y h1 h2
        exact ⟨v, k1, pure1_rel (List.all_eq_true.1 (hpure cs (List.mem_of_getElem? h1)) y (List.mem_of_getElem? h2)) k2, k3⟩
      refine ⟨_, C, u, w.drew, rfl, rfl, rfl, ?_, rowCells_append hol hnl hu2 (fun i cs h => hu cs (List.mem_of_getElem? h)) holdr hnewsp hCg, hexec _ _ (hv ▸ hrun), ?_⟩
      · rw [List.length_append, hCs]; exact Nat.mul_le_mul_right _ hge
      · have := Rel.refL (H := H) (lput ι b ⟨w.heap.size, j.size, (es ++ es2).length, C.size⟩) b (es ++ es2).length 0 (es ++ es2).length nc _ (lput_same _ _ _) rfl (by omega) (by rw [List.length_append]; exact hge) (by simp [hCs]) hcm
        simpa using this
end

theorem Ghost.trans {s s' s'' : AState} (g1 : Ghost s s') (g2 : Ghost s' s'') : Ghost s s'' := fun H ι a w hs => by
  obtain ⟨H1, ι1, h1, s1⟩ := g1 H ι a w hs
  obtain ⟨H2, ι2, h2, s2⟩ := g2 H1 ι1 a w h1
  exact ⟨H2, ι2, h2, Step.trans hs.heap s1 h1.heap s2⟩
theorem Ghost.weakSlot {n : Nat} {e : AEnv} {h : AHeap} (t : Nat) {x y : AV} (ht : e t = some x) (hxy : ∀ H ι v, Rel H ι x v → Rel H ι y v) : Ghost ⟨n, e, h⟩ ⟨n, eput e t y, h⟩ := fun H ι a w hs =>
  ⟨H, ι, ⟨hs.n, hs.d, fun u z hz => by
    by_cases hu : u = t
    · subst hu
      simp only [eput_same, Option.some.injEq] at hz
      subst hz
      obtain ⟨v, h1, h2⟩ := hs.env u _ ht
      exact ⟨v, h1, hxy _ _ _ h2⟩
    · simp only [eput_ne _ _ hu] at hz
      exact hs.env u z hz, hs.heap⟩, Step.refl _ _ _ _⟩
theorem nil_empty {H : Know} {ι : Lay} {v : Value} (h : Rel H ι .nil v) : Rel H ι (.lst false []) v := by
  rw [h.nil_inv]; exact .lst0 _ _ _ _ (fun h => by cases h) (Nat.zero_le _) (fun _ => rfl) trivial
/-- weaker values in a row -/
theorem Ghost.weakRow {n : Nat} {e : AEnv} {h : AHeap} (b : Nat) {sz : Nat} {es es' : List (List AV)} (hb : h b = some (.row true sz es)) (hl : es'.length = es.length)
    (hw : ∀ (i : Nat) (cs cs' : List AV), es[i]? = some cs → es'[i]? = some cs' → cs'.length = cs.length ∧ ∀ (j : Nat) (x y : AV), cs[j]? = some x → cs'[j]? = some y → y.cell1 = true ∧ ∀ H v, Rel H noLay x v → Rel H noLay y v) : Ghost ⟨n, e, h⟩ ⟨n, e, hput h b (.row true sz es')⟩ := fun H ι a w hs => by
  obtain ⟨r, hr, ⟨r1, r2, r3, r4, r5, r6⟩, r7⟩ := hs.heap.obj b _ hb rfl
  have hlput : lput ι b r = ι := by
    funext c
    by_cases hc : c = b
    · subst hc; rw [lput_same, hr]
    · rw [lput_ne _ _ hc]
  have old : ∀ (i : Nat) (cs' : List AV), es'[i]? = some cs' → ∃ cs, es[i]? = some cs := fun i cs' h => by
    have := (List.getElem?_eq_some_iff.1 h).1
    exact ⟨_, List.getElem?_eq_getElem (by omega)⟩
  have hlen : ∀ (i : Nat) (cs' : List AV), es'[i]? = some cs' → cs'.length = sz := fun i cs' h => by
    obtain ⟨cs, hc⟩ := old i cs' h
    rw [(hw i cs cs' hc h).1, r5 i cs hc]
  have := hs.heap.upd (w' := w) (o0 := .row true sz es) (o' := .row true sz es') (r' := r) hb rfl (.inr ⟨r, hr, rfl, .inl rfl⟩) (fun hs' => .inr ⟨r, hr, rfl, hs', rfl⟩) (fun _ _ _ => rfl) (Nat.le_refl _) rfl rfl
    ⟨r1, r2, by rw [hl]; exact r3, by rw [hl]; exact r4, hlen, fun hsol => by
      obtain ⟨c, TT, w1, w2, w3⟩ := r6 hsol
      exact ⟨c, TT, w1, w2, hlen, fun k ds q z hk hq => by
        obtain ⟨cs, hc⟩ := old k ds hk
        obtain ⟨e1, e2⟩ := hw k cs ds hc hk
        have hq' : q < cs.length := by rw [← e1]; exact (List.getElem?_eq_some_iff.1 hq).1
        have hx : cs[q]? = some cs[q] := List.getElem?_eq_getElem hq'
        obtain ⟨v, f1, f2, f3⟩ := w3.2 k cs q _ hc hx
        obtain ⟨g1, g2⟩ := e2 q _ z hx hq
        exact ⟨v, f1, g2 _ _ f2, g1⟩⟩⟩
  rw [hlput] at this
  exact ⟨H, ι, ⟨hs.n, hs.d, hs.env, this.1⟩, this.2⟩
theorem HSub.from_rm {h : AHeap} {k b : Nat} (hh : HSub (hFrom k) h) (hb : b < k) : HSub (hFrom k) (hrm h b) := fun c x hx => by
  have hne : c ≠ b := fun e => by
    subst e
    have h1 : Nat.blt c k = true := by rw [Nat.blt_eq]; exact hb
    simp only [hFrom, h1, cond_true] at hx
    cases hx
  rw [hrm_ne _ hne]; exact hh c x hx
/-- what came of it stays as it is -/
theorem Ghost.endJ {n : Nat} {e : AEnv} {h : AHeap} (t b : Nat) {f : Bool} {sz : Nat} {es : List (List AV)} (ht : e t = some (jAV f b es)) (hb : h b = some (jObj f sz es)) : Ghost ⟨n, e, h⟩ ⟨n, eput e t (.lst false es), hrm h b⟩ := by
  cases f with
  | false =>
    have := Ghost.freeze (n := n) t b ht hb rfl
    rwa [List.drop_zero, List.take_length] at this
  | true =>
    refine (Ghost.weakSlot t ht (fun H ι v h => rel_unex h)).trans (.of_sub ⟨rfl, fun _ _ h => h, fun c x hx => ?_⟩)
    by_cases hc : c = b
    · subst hc
      have : hrm h c c = some x := hx
      rw [hrm_same] at this; cases this
    · have : hrm h b c = some x := hx
      rwa [hrm_ne _ hc] at this
end Go.Proofs.Ytidfabbnobipkaa.Sv

namespace Go.Proofs.Ytidfabbnobipkaa.Sv
open Go
set_option linter.unusedVariables false
set_option linter.unusedSimpArgs false

theorem Ghost.freezeA {n : Nat} {e : AEnv} {h : AHeap} (t b : Nat) {m sz : Nat} {es : List (List AV)} (ht : e t = some (.ref b m 0 m)) (hb : h b = some (.row true sz es)) (hm : m = es.length) :
    Ghost ⟨n, e, h⟩ ⟨n, eput e t (.lst false es), hrm h b⟩ := by
  have := Ghost.freeze (n := n) t b ht hb hm
  rwa [List.drop_zero, List.take_of_length_le (Nat.le_of_eq hm.symm)] at this
def pathCell (p : List Int) : List AV := [intsAV p]
def Block.nexts (b : Block) : List Int := bif b.fin == 1 then [b.to] else bif b.fin == 2 then [b.to, b.els] else []
def BFunc.nexts (f : BFunc) : List (List Int) := f.blocks.map Block.nexts
theorem nexts_length (f : BFunc) : f.nexts.length = f.blocks.length := by simp [BFunc.nexts]
theorem nexts_get {f : BFunc} {k : Nat} {x : Block} (h : f.blocks[k]? = some x) : f.nexts[k]? = some x.nexts := by simp [BFunc.nexts, h]
theorem fill_skip {α : Type} {F : List α} {f : α → List AV} {z : List AV} {k n : Nat} {x : α} (hF : F.length = n) (hx : F[k]? = some x) (hz : f x = z) : ((F.take k).map f ++ List.replicate (n - k) z) = (F.take (k + 1)).map f ++ List.replicate (n - (k + 1)) z := by
  have hk : k < n := by rw [← hF]; exact (List.getElem?_eq_some_iff.1 hx).1
  rw [take_succ_eq hx, List.map_append, List.append_assoc]
  congr 1
  obtain ⟨m, hm⟩ : ∃ m, n - k = m + 1 := ⟨n - k - 1, by omega⟩
  have hm2 : n - (k + 1) = m := by omega
  rw [hm, hm2]
  simp [List.replicate_succ, hz]

/-! ### going depth first -/
structure DS where
  been : List Bool
  way : List (Int × Int)
def notBeen (been : List Bool) (b : Int) : Bool := decide (b ≥ 0) && decide (b < been.length) && !((been[b.toNat]?).getD true)
def dinto (b : Int) (s : DS) : DS := bif notBeen s.been b then ⟨s.been.set b.toNat true, s.way ++ [(b, 0)]⟩ else s
def rowAt (next : List (List Int)) (b : Int) : List Int := (next[b.toNat]?).getD []
def dstep (next : List (List Int)) (s : DS) : DS :=
  match s.way.getLast? with
  | none => s
  | some (b, i) => bif decide (i < (rowAt next b).length) then dinto (((rowAt next b)[i.toNat]?).getD 0) ⟨s.been, s.way.dropLast ++ [(b, i + 1)]⟩ else ⟨s.been, s.way.dropLast⟩
def drun (next : List (List Int)) : Nat → DS → DS
  | 0, s => s
  | g + 1, s => if s.way.isEmpty then s else drun next g (dstep next s)
def nu : List Bool → List (List Int) → Nat
  | x :: xs, l :: ls => (bif x then 0 else l.length + 2) + nu xs ls
  | _, _ => 0
def wmu (next : List (List Int)) (way : List (Int × Int)) : Nat := (way.map fun p => (rowAt next p.1).length - p.2.toNat + 1).sum
def dmu (next : List (List Int)) (s : DS) : Nat := nu s.been next + wmu next s.way
theorem nu_set : ∀ {been : List Bool} {next : List (List Int)} {i : Nat} {l : List Int}, been[i]? = some false → next[i]? = some l → nu (been.set i true) next + (l.length + 2) = nu been next
  | [], _, _, _, h, _ => by simp at h
  | _ :: _, [], _, _, _, h => by simp at h
  | x :: xs, m :: ls, 0, l, h1, h2 => by
    simp at h1 h2; subst h1; subst h2
    simp [nu]; omega
  | x :: xs, m :: ls, i + 1, l, h1, h2 => by
    simp only [List.getElem?_cons_succ] at h1 h2
    have := nu_set h1 h2
    simp only [List.set_cons_succ, nu]; omega
def unb (l : List Bool) : Nat := (l.map fun x => bif x then 0 else 1).sum
theorem unb_set : ∀ {been : List Bool} {i : Nat}, been[i]? = some false → unb (been.set i true) + 1 = unb been
  | [], _, h => by simp at h
  | x :: xs, 0, h => by simp at h; subst h; simp [unb]; omega
  | x :: xs, i + 1, h => by
    simp only [List.getElem?_cons_succ] at h
    have := unb_set h
    simp only [unb, List.set_cons_succ, List.map_cons, List.sum_cons] at this ⊢
    omega
theorem notBeen_get {been : List Bool} {b : Int} (h : notBeen been b = true) : 0 ≤ b ∧ b < been.length ∧ been[b.toNat]? = some false := by
  simp only [notBeen, Bool.and_eq_true, decide_eq_true_eq, Bool.not_eq_true'] at h
  obtain ⟨⟨h1, h2⟩, h3⟩ := h
  refine ⟨h1, h2, ?_⟩
  obtain ⟨v, hv⟩ := get_of_lt (l := been) (k := b.toNat) (by omega)
  rw [hv] at h3 ⊢
  simpa using h3
theorem wmu_snoc (next : List (List Int)) (w : List (Int × Int)) (p : Int × Int) : wmu next (w ++ [p]) = wmu next w + ((rowAt next p.1).length - p.2.toNat + 1) := by simp [wmu]
theorem dinto_mu {next : List (List Int)} {b : Int} {s : DS} (hn : s.been.length = next.length) : dmu next (dinto b s) ≤ dmu next s := by
  unfold dinto
  cases h : notBeen s.been b with
  | false => exact Nat.le_refl _
  | true =>
    obtain ⟨h1, h2, h3⟩ := notBeen_get h
    obtain ⟨l, hl⟩ := get_of_lt (l := next) (k := b.toNat) (by omega)
    have := nu_set h3 hl
    simp only [cond_true, dmu, wmu_snoc]
    have hr : rowAt next b = l := by simp [rowAt, hl]
    rw [hr]
    simp
    omega
theorem way_last {w : List (Int × Int)} {p : Int × Int} (h : w.getLast? = some p) : w = w.dropLast ++ [p] := by
  cases w with
  | nil => simp at h
  | cons x r =>
    have hne : x :: r ≠ [] := by simp
    rw [List.getLast?_eq_some_getLast hne] at h
    cases h
    exact (List.dropLast_concat_getLast hne).symm
theorem dropLast_take' {α : Type} {l : List α} {n : Nat} (h : n ≤ l.length) : (l.take n).dropLast = l.take (n - 1) := by
  rw [List.dropLast_eq_take, List.take_take, List.length_take]
  congr 1; omega
/-- the state is one that may be -/
structure DS.ok (next : List (List Int)) (s : DS) : Prop where
  len : s.been.length = next.length
  way : ∀ p ∈ s.way, 0 ≤ p.1 ∧ p.1 < next.length ∧ 0 ≤ p.2 ∧ p.2 ≤ (rowAt next p.1).length
theorem dinto_ok {next : List (List Int)} {b : Int} {s : DS} (h : s.ok next) : (dinto b s).ok next := by
  unfold dinto
  cases e : notBeen s.been b with
  | false => exact h
  | true =>
    obtain ⟨h1, h2, h3⟩ := notBeen_get e
    have := h.len
    refine ⟨by simpa using h.len, fun p hp => ?_⟩
    simp only [cond_true, List.mem_append, List.mem_singleton] at hp
    rcases hp with hp | rfl
    · exact h.way p hp
    · exact ⟨h1, by omega, Int.le_refl _, Int.natCast_nonneg _⟩
theorem dstep_ok {next : List (List Int)} {s : DS} (h : s.ok next) : (dstep next s).ok next := by
  unfold dstep
  split
  · exact h
  · rename_i b i e
    have hw := way_last e
    have hb := h.way (b, i) (by rw [hw]; simp)
    cases hi : decide (i < (rowAt next b).length) with
    | false => exact ⟨h.len, fun p hp => h.way p (List.dropLast_subset _ hp)⟩
    | true =>
      simp only [decide_eq_true_eq] at hi
      refine dinto_ok ⟨h.len, fun p hp => ?_⟩
      simp only [List.mem_append, List.mem_singleton] at hp
      rcases hp with hp | rfl
      · exact h.way p (List.dropLast_subset _ hp)
      · exact ⟨hb.1, hb.2.1, by show 0 ≤ i + 1; have := hb.2.2.1; simp only at this; omega, by show i + 1 ≤ ((rowAt next b).length : Int); omega⟩
theorem dstep_mu {next : List (List Int)} {s : DS} (h : s.ok next) (hne : s.way ≠ []) : dmu next (dstep next s) < dmu next s := by
  unfold dstep
  cases e : s.way.getLast? with
  | none => rw [List.getLast?_eq_none_iff] at e; exact absurd e hne
  | some p =>
    obtain ⟨b, i⟩ := p
    have hw := way_last e
    have hb := h.way (b, i) (by rw [hw]; simp)
    simp only at hb
    have e1 : dmu next s = nu s.been next + (wmu next s.way.dropLast + ((rowAt next b).length - i.toNat + 1)) := by
      unfold dmu
      conv => lhs; rw [hw]
      rw [wmu_snoc]
    dsimp only
    cases hi : decide (i < (rowAt next b).length) with
    | false =>
      rw [e1]
      simp only [cond_false, dmu]
      omega
    | true =>
      simp only [decide_eq_true_eq] at hi
      simp only [cond_true]
      refine Nat.lt_of_le_of_lt (dinto_mu h.len) ?_
      rw [e1]
      simp only [dmu, wmu_snoc]
      omega
theorem drun_step {next : List (List Int)} {g : Nat} {s : DS} (hne : s.way ≠ []) : drun next (g + 1) s = drun next g (dstep next s) := by
  have : s.way.isEmpty = false := by simpa using hne
  simp [drun, this]
theorem drun_end {next : List (List Int)} {g : Nat} {s : DS} (h : s.way = []) : drun next g s = s := by
  cases g with
  | zero => rfl
  | succ g => simp [drun, h]
def dstart (been : List Bool) : DS := dinto 0 ⟨been, []⟩
def dreach (next : List (List Int)) (been : List Bool) : List Bool := (drun next (dmu next (dstart been) + 1) (dstart been)).been
def BFunc.reach (f : BFunc) : List Bool := dreach f.nexts (List.replicate f.nexts.length false)
/-! ### the way, as it lies in memory -/
def wcell (p : Int × Int) : List AV := [.int .i64 p.1, .int .i64 p.2]
/-- the way's row -/
structure WayIn (n : Nat) (s : DS) (es : List (List AV)) : Prop where
  le : s.way.length ≤ es.length
  eq : es.take s.way.length = s.way.map wcell
  cap : es.length + unb s.been ≤ n
def ies (b : Int) (s : DS) (es : List (List AV)) : List (List AV) := bif notBeen s.been b then pushE es s.way.length (wcell (b, 0)) else es
theorem pushE_length {es : List (List AV)} {len : Nat} {cs : List AV} : (pushE es len cs).length ≤ es.length + 1 := by
  unfold pushE; split <;> simp
theorem WayIn.into {n : Nat} {b : Int} {s : DS} {es : List (List AV)} (h : WayIn n s es) : WayIn n (dinto b s) (ies b s es) := by
  unfold dinto ies
  cases e : notBeen s.been b with
  | false => exact h
  | true =>
    obtain ⟨h1, h2, h3⟩ := notBeen_get e
    have hu := unb_set h3
    simp only [cond_true]
    refine ⟨by simpa using pushE_len h.le, ?_, ?_⟩
    · show (pushE es s.way.length (wcell (b, 0))).take (s.way ++ [(b, 0)]).length = _
      rw [List.length_append]
      simp only [List.length_cons, List.length_nil, List.map_append, List.map_cons, List.map_nil]
      rw [pushE_take h.le, h.eq]
    · have := pushE_length (es := es) (len := s.way.length) (cs := wcell (b, 0))
      have := h.cap
      show (pushE es s.way.length (wcell (b, 0))).length + unb (s.been.set b.toNat true) ≤ n
      omega
theorem WayIn.top {n : Nat} {s : DS} {es : List (List AV)} (h : WayIn n s es) {p : Int × Int} (hp : s.way.getLast? = some p) : es[s.way.length - 1]? = some (wcell p) ∧ 0 < s.way.length := by
  have hw := way_last hp
  have hpos : 0 < s.way.length := by rw [hw]; simp
  have h1 : (es.take s.way.length)[s.way.length - 1]? = es[s.way.length - 1]? := List.getElem?_take_of_lt (by omega)
  rw [← h1, h.eq, List.getElem?_map]
  rw [List.getLast?_eq_getElem?] at hp
  rw [hp]
  exact ⟨rfl, hpos⟩
theorem WayIn.seen {n : Nat} {s : DS} {es : List (List AV)} (h : WayIn n s es) {b i : Int} (hp : s.way.getLast? = some (b, i)) : WayIn n ⟨s.been, s.way.dropLast ++ [(b, i + 1)]⟩ (es.set (s.way.length - 1) (wcell (b, i + 1))) := by
  obtain ⟨h1, h2⟩ := h.top hp
  have hl : (s.way.dropLast ++ [(b, i + 1)]).length = s.way.length := by simp; omega
  have hle := h.le
  refine ⟨by simp only [hl, List.length_set]; exact hle, ?_, by simpa using h.cap⟩
  simp only [hl]
  obtain ⟨m, hm⟩ : ∃ m, s.way.length = m + 1 := ⟨s.way.length - 1, by omega⟩
  rw [hm]
  simp only [Nat.add_sub_cancel]
  have hlt : m < es.length := by omega
  rw [take_succ_eq (List.getElem?_set_self hlt), List.take_set_of_le (Nat.le_refl _), List.map_append]
  congr 1
  have := h.eq
  rw [hm] at this
  have h3 := congrArg List.dropLast this
  rw [List.map_dropLast] 
  rw [← h3, dropLast_take' (by omega)]
  rfl
theorem WayIn.pop {n : Nat} {s : DS} {es : List (List AV)} (h : WayIn n s es) {p : Int × Int} (hp : s.way.getLast? = some p) : WayIn n ⟨s.been, s.way.dropLast⟩ es := by
  obtain ⟨h1, h2⟩ := h.top hp
  have hle := h.le
  refine ⟨by simp only [List.length_dropLast]; omega, ?_, h.cap⟩
  simp only [List.length_dropLast]
  have h3 := congrArg List.dropLast h.eq
  rw [List.map_dropLast, ← h3, dropLast_take' (by omega)]
end Go.Proofs.Ytidfabbnobipkaa.Sv

namespace Go.Proofs.Ytidfabbnobipkaa.Sv
open Go
set_option linter.unusedVariables false
set_option linter.unusedSimpArgs false
theorem idx_mapZ {α : Type} {l : List α} {f : α → List AV} {n : Int} {x : α} (h : l[n.toNat]? = some x) : (l.map f)[n.toNat]? = some (f x) := by rw [List.getElem?_map, h]; rfl
theorem weak_nils (n : Nat) : ∀ (i : Nat) (cs cs' : List AV), (List.replicate n [AV.nil])[i]? = some cs → (List.replicate n [AV.lst false []])[i]? = some cs' → cs'.length = cs.length ∧ ∀ (j : Nat) (x y : AV), cs[j]? = some x → cs'[j]? = some y → y.cell1 = true ∧ ∀ H v, Rel H noLay x v → Rel H noLay y v := fun i cs cs' h1 h2 => by
  have e1 := List.eq_of_mem_replicate (List.mem_of_getElem? h1)
  have e2 := List.eq_of_mem_replicate (List.mem_of_getElem? h2)
  subst e1; subst e2
  refine ⟨rfl, fun j x y g1 g2 => ?_⟩
  cases j with
  | zero => simp at g1 g2; subst g1; subst g2; exact ⟨rfl, fun H v h => nil_empty h⟩
  | succ j => simp at g1
theorem dinto_eq {b : Int} {s : DS} {c : Bool} (h : notBeen s.been b = c) : dinto b s = bif c then ⟨s.been.set b.toNat true, s.way ++ [(b, 0)]⟩ else s := by rw [dinto, h]
theorem ies_eq {b : Int} {s : DS} {es : List (List AV)} {c : Bool} (h : notBeen s.been b = c) : ies b s es = bif c then pushE es s.way.length (wcell (b, 0)) else es := by rw [ies, h]
theorem been_set (l : List Bool) (b : Int) (v : Bool) : (l.map boolCells).set (0 + b.toNat) [AV.bool v] = (l.set b.toNat v).map boolCells := by
  rw [Nat.zero_add, List.map_set]; rfl
theorem way_seen_len {w : List (Int × Int)} {p0 : Int × Int} (hp : w.getLast? = some p0) (es : List (List AV)) (c : List AV) {p : Int × Int} {k : Nat} : ((es.length, w.length) : Nat × Nat) = ((es.set k c).length, (w.dropLast ++ [p]).length) := by
  have hpos : 0 < w.length := by rw [way_last hp]; simp
  simp; omega
theorem way_first {next : List (List Int)} {been : List Bool} (h : been.length = next.length) : WayIn next.length (DS.mk been []) ([] : List (List AV)) := by
  refine ⟨Nat.le_refl _, rfl, ?_⟩
  rw [← h]
  show 0 + unb been ≤ been.length
  clear h
  induction been with
  | nil => simp [unb]
  | cons x r ih => simp only [unb, List.map_cons, List.sum_cons, List.length_cons] at ih ⊢; cases x <;> simp <;> omega
theorem len_pred {n : Nat} (h : 0 < n) (h2 : n ≤ 100000000) : evalBin .sub (.int .i64 (n : Int)) (.int .i64 1) = some (.int .i64 ((n - 1 : Nat) : Int)) := by
  simp only [evalBin, evalInt, isShift, cond_false, if_true]
  rw [wrap_i64 (by omega) (by omega)]
  congr 2; omega
structure FW where
  s : DS
  es : List (List AV)
  g : Nat
structure FWInv (next : List (List Int)) (tgt : DS) (q : FW) : Prop where
  ok : q.s.ok next
  way : WayIn next.length q.s q.es
  gas : dmu next q.s < q.g
  tgt : drun next q.g q.s = tgt
theorem FWInv.first {next : List (List Int)} {been : List Bool} (h : been.length = next.length) : FWInv next (drun next (dmu next (dstart been) + 1) (dstart been)) ⟨dstart been, ies 0 (DS.mk been []) [], dmu next (dstart been) + 1⟩ :=
  ⟨dinto_ok ⟨h, fun p hp => by cases hp⟩, (way_first h).into, Nat.lt_succ_self _, rfl⟩
theorem FWInv.next {next : List (List Int)} {tgt : DS} {q : FW} (h : FWInv next tgt q) {s' : DS} {es' : List (List AV)} {p : Int × Int} (hp : q.s.way.getLast? = some p) (he : dstep next q.s = s') (hw : WayIn next.length s' es') : FWInv next tgt ⟨s', es', q.g - 1⟩ ∧ q.g - 1 < q.g := by
  have hne : q.s.way ≠ [] := fun e => by rw [e] at hp; simp at hp
  have h1 := dstep_mu h.ok hne
  have h2 := h.gas
  have h3 := dstep_ok h.ok
  rw [he] at h1 h3
  refine ⟨⟨h3, hw, by show dmu next s' < q.g - 1; omega, ?_⟩, by omega⟩
  obtain ⟨g, hg⟩ : ∃ g, q.g = g + 1 := ⟨q.g - 1, by omega⟩
  have h4 := h.tgt
  rw [hg, drun_step hne, he] at h4
  rw [hg]; exact h4
theorem dstep_in {next : List (List Int)} {s : DS} {b i : Int} (hp : s.way.getLast? = some (b, i)) (h : i < (rowAt next b).length) : dstep next s = dinto (((rowAt next b)[i.toNat]?).getD 0) ⟨s.been, s.way.dropLast ++ [(b, i + 1)]⟩ := by
  have h' : decide (i < ((rowAt next b).length : Int)) = true := by simpa using h
  simp only [dstep, hp, h', cond_true]
theorem dstep_out {next : List (List Int)} {s : DS} {b i : Int} (hp : s.way.getLast? = some (b, i)) (h : ¬ i < (rowAt next b).length) : dstep next s = ⟨s.been, s.way.dropLast⟩ := by
  have h' : decide (i < ((rowAt next b).length : Int)) = false := by simpa using h
  simp only [dstep, hp, h', cond_false]
theorem dinto_len (b : Int) (s : DS) : (dinto b s).been.length = s.been.length := by
  unfold dinto; cases notBeen s.been b <;> simp
theorem dstep_len (next : List (List Int)) (s : DS) : (dstep next s).been.length = s.been.length := by
  unfold dstep
  split
  · rfl
  · rename_i b i e
    cases decide (i < (rowAt next b).length) with
    | true => simp only [cond_true]; rw [dinto_len]
    | false => rfl
theorem drun_len (next : List (List Int)) : ∀ (g : Nat) (s : DS), (drun next g s).been.length = s.been.length
  | 0, s => rfl
  | g + 1, s => by
    unfold drun
    split
    · rfl
    · rw [drun_len next g, dstep_len]
theorem dreach_length (next : List (List Int)) (been : List Bool) : (dreach next been).length = been.length := by
  rw [dreach, drun_len, dstart, dinto_len]
theorem FWInv.done {next : List (List Int)} {tgt : DS} {q : FW} (h : FWInv next tgt q) (hn : q.s.way = []) : q.s = tgt := by
  have := h.tgt
  rwa [drun_end hn] at this
end Go.Proofs.Ytidfabbnobipkaa.Sv

namespace Go.Proofs.Ytidfabbnobipkaa.Sv
open Go
set_option linter.unusedVariables false
set_option linter.unusedSimpArgs false

def iget (l : List Int) (z : Int) : Int := (l[z.toNat]?).getD 0
def iset (l : List Int) (z v : Int) : List Int := l.set z.toNat v
def bget (l : List Bool) (z : Int) : Bool := (l[z.toNat]?).getD false
def intCells (l : List Int) : List (List AV) := l.map fun n => [AV.int .i64 n]
theorem intCells_len (l : List Int) : (intCells l).length = l.length := by simp [intCells]
theorem icell {l : List Int} {z : Int} (h : 0 ≤ z ∧ z < l.length) : (intCells l)[0 + z.toNat]? = some [AV.int .i64 (iget l z)] := by
  obtain ⟨v, hv⟩ := get_of_lt (l := l) (k := z.toNat) (by omega)
  rw [Nat.zero_add, intCells, List.getElem?_map, hv, iget, hv]; rfl
theorem icellZ {l : List Int} {z : Int} (h : 0 ≤ z ∧ z < l.length) : (l.map fun n => [AV.int .i64 n])[z.toNat]? = some [AV.int .i64 (iget l z)] := by
  obtain ⟨v, hv⟩ := get_of_lt (l := l) (k := z.toNat) (by omega)
  rw [List.getElem?_map, hv, iget, hv]; rfl
theorem bcellZ {l : List Bool} {z : Int} (h : 0 ≤ z ∧ z < l.length) : (l.map fun n => [AV.bool n])[z.toNat]? = some [AV.bool (bget l z)] := by
  obtain ⟨v, hv⟩ := get_of_lt (l := l) (k := z.toNat) (by omega)
  rw [List.getElem?_map, hv, bget, hv]; rfl
theorem icell_set (l : List Int) (z v : Int) : (intCells l).set (0 + z.toNat) [AV.int .i64 v] = intCells (iset l z v) := by
  rw [Nat.zero_add, intCells, intCells, iset, List.map_set]
theorem intCells_rep (n : Nat) : List.replicate n [AV.int .i64 0] = intCells (List.replicate n 0) := by simp [intCells]
theorem iset_length (l : List Int) (z v : Int) : (iset l z v).length = l.length := by simp [iset]

/-! ### how many ways lead to each -/
def bump (w : List Int) (k : Int) : List Int := iset w k (iget w k + 1)
theorem bump_length (w : List Int) (k : Int) : (bump w k).length = w.length := by simp [bump, iset_length]
theorem bumps_length : ∀ (l : List Int) (w : List Int), (l.foldl bump w).length = w.length
  | [], _ => rfl
  | k :: r, w => by rw [List.foldl_cons, bumps_length r, bump_length]
/-- numbers between 0 and a bound -/
def upTo (m : Nat) (w : List Int) : Prop := ∀ v ∈ w, 0 ≤ v ∧ v ≤ m
theorem iget_upTo {m : Nat} {w : List Int} (h : upTo m w) (k : Int) : 0 ≤ iget w k ∧ iget w k ≤ m := by
  unfold iget
  cases e : w[k.toNat]? with
  | none => simp
  | some v => exact h v (List.mem_of_getElem? e)
theorem bump_upTo {m : Nat} {w : List Int} (h : upTo m w) (k : Int) : upTo (m + 1) (bump w k) := fun v hv => by
  have hk := iget_upTo h k
  rcases List.mem_or_eq_of_mem_set hv with hv | rfl
  · have := h v hv; omega
  · omega
theorem bumps_upTo : ∀ (l : List Int) {m : Nat} {w : List Int}, upTo m w → upTo (m + l.length) (l.foldl bump w)
  | [], _, _, h => h
  | k :: r, m, w, h => by
    have := bumps_upTo r (bump_upTo h k)
    rw [List.foldl_cons, List.length_cons, show m + (r.length + 1) = m + 1 + r.length by omega]; exact this
def waysAt (next : List (List Int)) (reach : List Bool) : Nat → List Int
  | 0 => List.replicate next.length 0
  | k + 1 => bif (reach[k]?).getD false then ((next[k]?).getD []).foldl bump (waysAt next reach k) else waysAt next reach k
theorem waysAt_length (next : List (List Int)) (reach : List Bool) : ∀ k, (waysAt next reach k).length = next.length
  | 0 => by simp [waysAt]
  | k + 1 => by
    unfold waysAt
    cases (reach[k]?).getD false with
    | true => rw [cond_true, bumps_length, waysAt_length next reach k]
    | false => exact waysAt_length next reach k
theorem waysAt_upTo {next : List (List Int)} (h2 : ∀ l ∈ next, l.length ≤ 2) (reach : List Bool) : ∀ k, upTo (2 * k) (waysAt next reach k)
  | 0 => fun v hv => by rw [waysAt] at hv; rw [List.eq_of_mem_replicate hv]; omega
  | k + 1 => by
    have ih := waysAt_upTo h2 reach k
    unfold waysAt
    cases (reach[k]?).getD false with
    | false => exact fun v hv => by have := ih v hv; omega
    | true =>
      have hl : ((next[k]?).getD []).length ≤ 2 := by
        cases e : next[k]? with
        | none => simp
        | some l => exact h2 l (List.mem_of_getElem? e)
      have := bumps_upTo ((next[k]?).getD []) ih
      exact fun v hv => by have := this v hv; omega
def waysF (next : List (List Int)) (reach : List Bool) : List Int := waysAt next reach next.length
/-! ### which one takes which in -/
def takeOf (next : List (List Int)) (reach : List Bool) (i : Nat) (b : Block) : Int :=
  bif (reach[i]?).getD false && (b.fin == 1 && (b.to != 0 && (b.to != (i : Int) && iget (waysF next reach) b.to == 1))) then b.to else -1
def BFunc.takes (f : BFunc) (reach : List Bool) : List Int := f.blocks.zipIdx.map fun p => takeOf f.nexts reach p.2 p.1
def BFunc.takenAt (f : BFunc) (reach : List Bool) : Nat → List Bool
  | 0 => List.replicate f.blocks.length false
  | k + 1 => match f.blocks[k]? with
    | some b => bif takeOf f.nexts reach k b == -1 then f.takenAt reach k else (f.takenAt reach k).set b.to.toNat true
    | none => f.takenAt reach k
theorem takes_length (f : BFunc) (reach : List Bool) : (f.takes reach).length = f.blocks.length := by simp [BFunc.takes]
theorem takes_get {f : BFunc} {reach : List Bool} {k : Nat} {x : Block} (h : f.blocks[k]? = some x) : (f.takes reach)[k]? = some (takeOf f.nexts reach k x) := by
  rw [BFunc.takes, List.getElem?_map, zipIdx_get h]; rfl
theorem takenAt_length (f : BFunc) (reach : List Bool) : ∀ k, (f.takenAt reach k).length = f.blocks.length
  | 0 => by simp [BFunc.takenAt]
  | k + 1 => by
    have ih := takenAt_length f reach k
    unfold BFunc.takenAt
    split
    · rename_i b hb
      cases takeOf f.nexts reach k b == -1 <;> simp [ih]
    · exact ih
theorem takenAt_succ {f : BFunc} {reach : List Bool} {k : Nat} {x : Block} (h : f.blocks[k]? = some x) : f.takenAt reach (k + 1) = bif takeOf f.nexts reach k x == -1 then f.takenAt reach k else (f.takenAt reach k).set x.to.toNat true := by
  rw [BFunc.takenAt, h]
/-- where the ways lead is there -/
def BFunc.leads (f : BFunc) : Prop := ∀ l ∈ f.nexts, ∀ k ∈ l, 0 ≤ k ∧ k < f.blocks.length
theorem nexts_two (f : BFunc) : ∀ l ∈ f.nexts, l.length ≤ 2 := fun l hl => by
  simp only [BFunc.nexts, List.mem_map] at hl
  obtain ⟨b, _, rfl⟩ := hl
  unfold Block.nexts
  cases b.fin == 1 <;> cases b.fin == 2 <;> simp
theorem leads_to {f : BFunc} (h : f.leads) {k : Nat} {x : Block} (hx : f.blocks[k]? = some x) (h1 : x.fin = 1 ∨ x.fin = 2) : 0 ≤ x.to ∧ x.to < f.blocks.length :=
  h x.nexts (List.mem_of_getElem? (nexts_get hx)) x.to (by rcases h1 with h1 | h1 <;> simp [Block.nexts, h1])
theorem leads_els {f : BFunc} (h : f.leads) {k : Nat} {x : Block} (hx : f.blocks[k]? = some x) (h1 : x.fin = 2) : 0 ≤ x.els ∧ x.els < f.blocks.length :=
  h x.nexts (List.mem_of_getElem? (nexts_get hx)) x.els (by simp [Block.nexts, h1])
/-! ### following -/
def chain (takes : List Int) : Nat → Int → List Int
  | 0, _ => []
  | g + 1, c => bif iget takes c == -1 then [] else iget takes c :: chain takes g (iget takes c)
def ends (takes : List Int) : Nat → Int → Bool
  | 0, c => iget takes c == -1
  | g + 1, c => iget takes c == -1 || ends takes g (iget takes c)
def pathOf (takes : List Int) (i : Int) : List Int := i :: chain takes takes.length i
structure FG2 where
  c : Int
  acc : List Int
  g : Nat
structure FInv2 (takes : List Int) (tgt : List Int) (q : FG2) : Prop where
  c : 0 ≤ q.c ∧ q.c < takes.length
  len : q.acc.length + q.g ≤ takes.length + 1
  fin : ends takes q.g q.c = true
  tgt : q.acc ++ chain takes q.g q.c = tgt
theorem FInv2.first {takes : List Int} {i : Int} (hi : 0 ≤ i ∧ i < takes.length) (he : ends takes takes.length i = true) : FInv2 takes (pathOf takes i) ⟨i, [i], takes.length⟩ := ⟨hi, by show 1 + takes.length ≤ _; omega, he, rfl⟩
theorem FInv2.next {takes : List Int} {tgt : List Int} {q : FG2} (hin : ∀ v ∈ takes, v = -1 ∨ (0 ≤ v ∧ v < takes.length)) (h : FInv2 takes tgt q) (hc : (iget takes q.c != -1) = true) :
    FInv2 takes tgt ⟨iget takes q.c, q.acc ++ [iget takes q.c], q.g - 1⟩ ∧ q.g - 1 < q.g := by
  have hne : (iget takes q.c == -1) = false := by simpa [bne] using hc
  obtain ⟨v, hv⟩ := get_of_lt (l := takes) (k := q.c.toNat) (by have := h.c; omega)
  have hi : iget takes q.c = v := by simp [iget, hv]
  have hlen := h.len
  have hfin := h.fin
  have htgt := h.tgt
  obtain ⟨g, hg⟩ : ∃ g, q.g = g + 1 := by
    cases e : q.g with
    | zero => rw [e] at hfin; simp only [ends, hne] at hfin; cases hfin
    | succ g => exact ⟨g, rfl⟩
  rw [hg] at hfin htgt hlen
  simp only [ends, chain, hne, Bool.false_or, cond_false] at hfin htgt
  rw [hg]
  refine ⟨⟨?_, ?_, hfin, ?_⟩, by simp⟩
  · rcases hin v (List.mem_of_getElem? hv) with e | e
    · rw [hi, e] at hne; simp at hne
    · rw [hi]; exact e
  · simp only [List.length_append, List.length_cons, List.length_nil]
    show q.acc.length + 1 + g ≤ _
    omega
  · show (q.acc ++ [iget takes q.c]) ++ chain takes g (iget takes q.c) = tgt
    rw [List.append_assoc]; exact htgt
theorem FInv2.done {takes : List Int} {tgt : List Int} {q : FG2} (h : FInv2 takes tgt q) (hc : (iget takes q.c != -1) = false) : q.acc = tgt := by
  have hne : (iget takes q.c == -1) = true := by simpa [bne] using hc
  have htgt := h.tgt
  cases e : q.g with
  | zero => rw [e] at htgt; simpa [chain] using htgt
  | succ g => rw [e] at htgt; simpa [chain, hne] using htgt
theorem takes_in {f : BFunc} (h : f.leads) (reach : List Bool) : ∀ v ∈ f.takes reach, v = -1 ∨ (0 ≤ v ∧ v < (f.takes reach).length) := fun v hv => by
  obtain ⟨k, hk⟩ := List.getElem?_of_mem hv
  have hlt : k < f.blocks.length := by rw [← takes_length f reach]; exact (List.getElem?_eq_some_iff.1 hk).1
  obtain ⟨x, hx⟩ := get_of_lt hlt
  rw [takes_get hx] at hk
  cases hk
  rw [takes_length]
  unfold takeOf
  cases e : (reach[k]?).getD false && (x.fin == 1 && (x.to != 0 && (x.to != (k : Int) && iget (waysF f.nexts reach) x.to == 1))) with
  | false => exact .inl rfl
  | true =>
    simp only [Bool.and_eq_true, beq_iff_eq] at e
    exact .inr (leads_to h hx (.inl e.2.1))
/-! ### the new function -/
def BFunc.headOf (f : BFunc) (k : Nat) : Bool := (f.reach[k]?).getD false && !((f.takenAt f.reach f.blocks.length)[k]?).getD false
def BFunc.tk (f : BFunc) : List Int := f.takes f.reach
def BFunc.pathsTo (f : BFunc) : Nat → List (List Int)
  | 0 => []
  | k + 1 => bif f.headOf k then f.pathsTo k ++ [pathOf f.tk k] else f.pathsTo k
def BFunc.numsTo (f : BFunc) : Nat → List Int
  | 0 => List.replicate f.blocks.length 0
  | k + 1 => bif f.headOf k then iset (f.numsTo k) k (f.pathsTo k).length else f.numsTo k
def BFunc.tpaths (f : BFunc) : List (List Int) := f.pathsTo f.blocks.length
def BFunc.nums (f : BFunc) : List Int := f.numsTo f.blocks.length
theorem numsTo_length (f : BFunc) : ∀ k, (f.numsTo k).length = f.blocks.length
  | 0 => by simp [BFunc.numsTo]
  | k + 1 => by
    unfold BFunc.numsTo
    cases f.headOf k with
    | true => rw [cond_true, iset_length, numsTo_length f k]
    | false => exact numsTo_length f k
theorem pathsTo_length (f : BFunc) : ∀ k, (f.pathsTo k).length ≤ k
  | 0 => by simp [BFunc.pathsTo]
  | k + 1 => by
    have ih := pathsTo_length f k
    unfold BFunc.pathsTo
    cases f.headOf k with
    | true => simp; omega
    | false => simp; omega
def BFunc.blockAt (f : BFunc) (i : Int) : Block := (f.blocks[i.toNat]?).getD ⟨[], 0, 0, 0, 0⟩
def lastOf (p : List Int) : Int := p.getLast?.getD 0
def BFunc.joined (f : BFunc) (p : List Int) : List Tac := p.flatMap fun i => (f.blockAt i).ins
def BFunc.newBlock (f : BFunc) (p : List Int) : Block where
  ins := f.joined p
  fin := (f.blockAt (lastOf p)).fin
  v := (f.blockAt (lastOf p)).v
  to := bif (f.blockAt (lastOf p)).fin == 1 || (f.blockAt (lastOf p)).fin == 2 then iget f.nums (f.blockAt (lastOf p)).to else (f.blockAt (lastOf p)).to
  els := bif (f.blockAt (lastOf p)).fin == 2 then iget f.nums (f.blockAt (lastOf p)).els else (f.blockAt (lastOf p)).els
def BFunc.tidy (f : BFunc) : BFunc := ⟨f.regs, f.tpaths.map f.newBlock⟩
/-- paths that lie in a function -/
def inF (n : Nat) (p : List Int) : Prop := p ≠ [] ∧ ∀ i ∈ p, 0 ≤ i ∧ i < n
theorem chain_in {takes : List Int} (hin : ∀ v ∈ takes, v = -1 ∨ (0 ≤ v ∧ v < takes.length)) : ∀ (g : Nat) (c : Int), 0 ≤ c ∧ c < takes.length → ∀ i ∈ chain takes g c, 0 ≤ i ∧ i < takes.length
  | 0, _, _ => fun i hi => by cases hi
  | g + 1, c, hc => fun i hi => by
    unfold chain at hi
    cases e : iget takes c == -1 with
    | true => rw [e] at hi; cases hi
    | false =>
      rw [e] at hi
      obtain ⟨v, hv⟩ := get_of_lt (l := takes) (k := c.toNat) (by omega)
      have hv' : iget takes c = v := by simp [iget, hv]
      have hcv : 0 ≤ iget takes c ∧ iget takes c < takes.length := by
        rcases hin v (List.mem_of_getElem? hv) with h | h
        · rw [hv', h] at e; simp at e
        · rw [hv']; exact h
      simp only [cond_false, List.mem_cons] at hi
      rcases hi with rfl | hi
      · exact hcv
      · exact chain_in hin g _ hcv i hi
theorem paths_in {f : BFunc} (h : f.leads) : ∀ k, k ≤ f.blocks.length → ∀ p ∈ f.pathsTo k, inF f.blocks.length p
  | 0, _ => fun p hp => by cases hp
  | k + 1, hk => fun p hp => by
    unfold BFunc.pathsTo at hp
    cases e : f.headOf k with
    | false => rw [e] at hp; exact paths_in h k (by omega) p hp
    | true =>
      rw [e] at hp
      simp only [cond_true, List.mem_append, List.mem_singleton] at hp
      rcases hp with hp | rfl
      · exact paths_in h k (by omega) p hp
      · have hl : f.tk.length = f.blocks.length := takes_length f _
        refine ⟨by simp [pathOf], fun i hi => ?_⟩
        simp only [pathOf, List.mem_cons] at hi
        rcases hi with rfl | hi
        · omega
        · have := chain_in (takes_in h f.reach) f.tk.length k (by show (0 : Int) ≤ k ∧ (k : Int) < f.tk.length; omega) i hi
          have hl' : ((f.takes f.reach).length : Int) = f.blocks.length := by rw [takes_length]
          rw [hl'] at this; exact this
/-- all that Of asks for -/
structure BFunc.tame (f : BFunc) : Prop where
  mild : f.blocks.length ≤ 1000
  ins : ∀ x ∈ f.blocks, x.ins.length ≤ 10000
  leads : f.leads
  ends : ∀ k, f.headOf k = true → ends f.tk f.tk.length k = true
end Go.Proofs.Ytidfabbnobipkaa.Sv

namespace Go.Proofs.Ytidfabbnobipkaa.Sv
open Go
set_option linter.unusedVariables false
set_option linter.unusedSimpArgs false

theorem get_set_selfZ {α : Type} {l : List α} {i : Nat} {x y : α} (h : l[i]? = some x) : (l.set i y)[i]? = some y := by
  have hi := (List.getElem?_eq_some_iff.1 h).1
  simp [hi]
def icell1 (n : Int) : List AV := [.int .i64 n]
section
variable {P : Program} {T : Nat → Option TyI} {o : Oper} {e : AEnv} {h : AHeap}
/-- l[1:] -/
theorem q_tail (hT : TOk P T) {t : TypeId} {x : Operand} {y : Operand} {c : List AV} {es : List (List AV)} {i j : TyI} {u : Nat} (ho : o.op = .slice t x (some y) none none) (hx : look e x = some (.lst false (c :: es))) (ht : T t = some i) (hk : i.k = .slice u) (hj : T u = some j)
    (hy : look e y = some (.int .i64 1)) (hu : ∀ cs ∈ c :: es, cs.length = j.size) : QLoc P o e h [] (.lst false es) := by
  have := q_slice_lst (h := h) hT 1 (c :: es).length ho hx ht hk hj ⟨.i64, hy⟩ rfl (by simp) (Nat.le_refl _) hu
  rw [List.take_of_length_le (Nat.le_refl _)] at this
  exact this
/-- l[:m] -/
theorem q_front (hT : TOk P T) {t : TypeId} {x : Operand} {y : Operand} {k : IntKind} {m : Nat} {es : List (List AV)} {i j : TyI} {u : Nat} (ho : o.op = .slice t x none (some y) none) (hx : look e x = some (.lst false es)) (ht : T t = some i) (hk : i.k = .slice u) (hj : T u = some j)
    (hy : look e y = some (.int k (m : Int))) (hm : m ≤ es.length) (hu : ∀ cs ∈ es, cs.length = j.size) : QLoc P o e h [] (.lst false (es.take m)) := by
  have := q_slice_lst (h := h) hT 0 m ho hx ht hk hj rfl ⟨k, hy⟩ (Nat.zero_le _) hm hu
  rw [List.drop_zero] at this
  exact this
/-- l[m:] -/
theorem q_back (hT : TOk P T) {t : TypeId} {x : Operand} {y : Operand} {k : IntKind} {m : Nat} {es : List (List AV)} {i j : TyI} {u : Nat} (ho : o.op = .slice t x (some y) none none) (hx : look e x = some (.lst false es)) (ht : T t = some i) (hk : i.k = .slice u) (hj : T u = some j)
    (hy : look e y = some (.int k (m : Int))) (hm : m ≤ es.length) (hu : ∀ cs ∈ es, cs.length = j.size) : QLoc P o e h [] (.lst false (es.drop m)) := by
  have := q_slice_lst (h := h) hT m es.length ho hx ht hk hj ⟨k, hy⟩ rfl hm (Nat.le_refl _) hu
  rw [List.take_of_length_le (Nat.le_refl _)] at this
  exact this
end
/-! ### taking in -/
theorem takeOf_no {next : List (List Int)} {reach : List Bool} {i : Nat} {b : Block} {r : Bool} (hr : reach[i]? = some r) (h : (r && (b.fin == 1 && (b.to != 0 && (b.to != (i : Int) && iget (waysF next reach) b.to == 1)))) = false) : takeOf next reach i b = -1 := by
  simp only [takeOf, hr, Option.getD_some, h, cond_false]
theorem takeOf_yes {next : List (List Int)} {reach : List Bool} {i : Nat} {b : Block} {r : Bool} (hr : reach[i]? = some r) (h : (r && (b.fin == 1 && (b.to != 0 && (b.to != (i : Int) && iget (waysF next reach) b.to == 1)))) = true) : takeOf next reach i b = b.to := by
  simp only [takeOf, hr, Option.getD_some, h, cond_true]
theorem taken_no {f : BFunc} {reach : List Bool} {k : Nat} {x : Block} (hx : f.blocks[k]? = some x) (h : takeOf f.nexts reach k x = -1) : f.takenAt reach k = f.takenAt reach (k + 1) := by
  rw [takenAt_succ hx, h]; rfl
theorem taken_yes {f : BFunc} {reach : List Bool} {k : Nat} {x : Block} (hx : f.blocks[k]? = some x) (h : takeOf f.nexts reach k x = x.to) (h0 : 0 ≤ x.to) : ((f.takenAt reach k).map boolCells).set (0 + x.to.toNat) [AV.bool true] = (f.takenAt reach (k + 1)).map boolCells := by
  have hne : (x.to == -1) = false := by simp; omega
  rw [takenAt_succ hx, h, hne, cond_false, Nat.zero_add, List.map_set]; rfl
theorem bumps_succ {l : List Int} {j : Nat} {y : Int} (h : l[j]? = some y) (w : List Int) : (l.take (j + 1)).foldl bump w = bump ((l.take j).foldl bump w) y := by
  rw [take_succ_eq h, List.foldl_append]; rfl
theorem ways_skip {next : List (List Int)} {reach : List Bool} {k : Nat} (h : reach[k]? = some false) : waysAt next reach k = waysAt next reach (k + 1) := by
  simp [waysAt, h]
theorem ways_do {next : List (List Int)} {reach : List Bool} {k j : Nat} {l : List Int} (h : reach[k]? = some true) (hl : next[k]? = some l) (hj : l.length ≤ j) : (l.take j).foldl bump (waysAt next reach k) = waysAt next reach (k + 1) := by
  simp [waysAt, h, hl, List.take_of_length_le hj]
/-! ### joining -/
def jFlag (f : BFunc) (rest : List Int) (k : Nat) : Bool := (f.joined (rest.take k)).isEmpty
def jList (f : BFunc) (i0 : Int) (rest : List Int) (k : Nat) : List (List AV) := ((f.blockAt i0).ins ++ f.joined (rest.take k)).map Tac.cells
theorem joined_succ {f : BFunc} {rest : List Int} {k : Nat} {i : Int} (h : rest[k]? = some i) : f.joined (rest.take (k + 1)) = f.joined (rest.take k) ++ (f.blockAt i).ins := by
  rw [BFunc.joined, take_succ_eq h, List.flatMap_append]; simp [BFunc.joined]
theorem jstep {f : BFunc} {i0 : Int} {rest : List Int} {k : Nat} {i : Int} (h : rest[k]? = some i) : ((jFlag f rest k && ((f.blockAt i).ins.map Tac.cells).isEmpty, jList f i0 rest k ++ (f.blockAt i).ins.map Tac.cells) : Bool × List (List AV)) = (jFlag f rest (k + 1), jList f i0 rest (k + 1)) := by
  simp only [jFlag, jList, joined_succ h, List.map_append, List.append_assoc]
  congr 1
  cases f.joined (rest.take k) <;> cases (f.blockAt i).ins <;> rfl
theorem blockAt_get {f : BFunc} {i : Int} (h : 0 ≤ i ∧ i < f.blocks.length) : f.blocks[i.toNat]? = some (f.blockAt i) := by
  obtain ⟨x, hx⟩ := get_of_lt (l := f.blocks) (k := i.toNat) (by omega)
  rw [BFunc.blockAt, hx]; rfl
theorem joined_len {f : BFunc} (hf : ∀ x ∈ f.blocks, x.ins.length ≤ 10000) : ∀ (p : List Int), (f.joined p).length ≤ p.length * 10000
  | [] => by simp [BFunc.joined]
  | i :: r => by
    have ih := joined_len hf r
    have hi : (f.blockAt i).ins.length ≤ 10000 := by
      unfold BFunc.blockAt
      cases e : f.blocks[i.toNat]? with
      | none => simp
      | some x => exact hf x (List.mem_of_getElem? e)
    simp only [BFunc.joined, List.flatMap_cons, List.length_append, List.length_cons] at ih ⊢
    omega
theorem jList_sizes (f : BFunc) (i0 : Int) (rest : List Int) (k : Nat) : (∀ cs ∈ jList f i0 rest k, cs.length = 8) ∧ ∀ cs ∈ jList f i0 rest k, cs.all AV.isPure1 = true := by
  constructor <;> intro cs h <;> simp only [jList, List.mem_map] at h <;> obtain ⟨t, _, rfl⟩ := h <;> rfl
theorem ins_sizes (l : List Tac) : (∀ cs ∈ l.map Tac.cells, cs.length = 8) ∧ ∀ cs ∈ l.map Tac.cells, cs.all AV.isPure1 = true := by
  constructor <;> intro cs h <;> simp only [List.mem_map] at h <;> obtain ⟨t, _, rfl⟩ := h <;> rfl
theorem last_get {p : List Int} (h : p ≠ []) : p[p.length - 1]? = some (lastOf p) := by
  rw [← List.getLast?_eq_getElem?, lastOf, List.getLast?_eq_some_getLast h]; rfl
theorem last_mem {p : List Int} (h : p ≠ []) : lastOf p ∈ p := List.mem_of_getElem? (last_get h)
theorem chain_length (takes : List Int) : ∀ (g : Nat) (c : Int), (chain takes g c).length ≤ g
  | 0, _ => by simp [chain]
  | g + 1, c => by
    unfold chain
    cases iget takes c == -1 with
    | true => simp
    | false => simp only [cond_false, List.length_cons]; have := chain_length takes g (iget takes c); omega
theorem pathsTo_len {f : BFunc} : ∀ (k : Nat), ∀ p ∈ f.pathsTo k, p.length ≤ f.blocks.length + 1
  | 0 => fun p hp => by cases hp
  | k + 1 => fun p hp => by
    unfold BFunc.pathsTo at hp
    cases e : f.headOf k with
    | false => rw [e] at hp; exact pathsTo_len k p hp
    | true =>
      rw [e] at hp
      simp only [cond_true, List.mem_append, List.mem_singleton] at hp
      rcases hp with hp | rfl
      · exact pathsTo_len k p hp
      · have := chain_length f.tk f.tk.length k
        have hl : f.tk.length = f.blocks.length := takes_length f _
        simp only [pathOf, List.length_cons]; omega
theorem pathsTo_yes {f : BFunc} {k : Nat} (h : f.headOf k = true) : f.pathsTo (k + 1) = f.pathsTo k ++ [pathOf f.tk k] := by simp [BFunc.pathsTo, h]
theorem pathsTo_no {f : BFunc} {k : Nat} (h : f.headOf k = false) : f.pathsTo (k + 1) = f.pathsTo k := by simp [BFunc.pathsTo, h]
theorem numsTo_yes {f : BFunc} {k : Nat} (h : f.headOf k = true) : f.numsTo (k + 1) = iset (f.numsTo k) k (f.pathsTo k).length := by simp [BFunc.numsTo, h]
theorem numsTo_no {f : BFunc} {k : Nat} (h : f.headOf k = false) : f.numsTo (k + 1) = f.numsTo k := by simp [BFunc.numsTo, h]
theorem headOf_eq {f : BFunc} {k : Nat} {r t : Bool} (hr : f.reach[k]? = some r) (ht : (f.takenAt f.reach f.blocks.length)[k]? = some t) : f.headOf k = (r && !t) := by simp [BFunc.headOf, hr, ht]
theorem reach_length (f : BFunc) : f.reach.length = f.blocks.length := by rw [BFunc.reach, dreach_length]; simp [BFunc.nexts]
end Go.Proofs.Ytidfabbnobipkaa.Sv

namespace Go.Proofs.Ytidfabbnobipkaa.Sv
open Go
set_option linter.unusedVariables false
set_option linter.unusedSimpArgs false

def okAt (f : BFunc) (p : List Int) (j : Nat) : Bool := (f.blockAt (iget p j)).fin == 1 && (f.blockAt (iget p j)).to == iget p ((j + 1 : Nat) : Int)
def followsB (f : BFunc) (p : List Int) : Bool := (List.range (p.length - 1)).all (okAt f p)
def madeR (f : BFunc) : List Tac → List Int → Bool
  | rest, [] => rest.isEmpty
  | rest, i :: r => decide ((f.blockAt i).ins.length ≤ rest.length) && (decide (rest.take (f.blockAt i).ins.length = (f.blockAt i).ins) && madeR f (rest.drop (f.blockAt i).ins.length) r)
def headZ (p : List Int) : Int := p.head?.getD 0
def pathK (paths : List (List Int)) (k : Int) : List Int := (paths[k.toNat]?).getD []
def beginsB (paths : List (List Int)) (k i : Int) : Bool := decide (k ≥ 0) && (decide (k < paths.length) && headZ (pathK paths k) == i)
def leadsTo (last b : Block) (paths : List (List Int)) : Bool := bif b.fin == 1 || b.fin == 2 then beginsB paths b.to last.to else b.to == last.to
def leadsEl (last b : Block) (paths : List (List Int)) : Bool := bif b.fin == 2 then beginsB paths b.els last.els else b.els == last.els
def leadsB (last b : Block) (paths : List (List Int)) : Bool := !(b.fin != last.fin) && (!(b.v != last.v) && (leadsTo last b paths && leadsEl last b paths))
def pathIn (n : Nat) (p : List Int) : Bool := !(p.length == 0) && p.all (fun i => !(decide (i < 0)) && !(decide (i ≥ n)))
def stepB (old new : BFunc) (paths : List (List Int)) (q : List Int × Nat) : Bool := followsB old q.1 && (madeR old (new.blockAt q.2).ins q.1 && leadsB (old.blockAt (lastOf q.1)) (new.blockAt q.2) paths)
def checkB (old new : BFunc) (paths : List (List Int)) : Bool :=
  !(paths.length == 0) && (!(paths.length != new.blocks.length) && (!(old.regs != new.regs) && (paths.all (pathIn old.blocks.length) && (!(headZ (pathK paths 0) != 0) && paths.zipIdx.all (stepB old new paths)))))
theorem pathIn_inF {n : Nat} {p : List Int} (h : pathIn n p = true) : inF n p := by
  simp only [pathIn, Bool.and_eq_true, Bool.not_eq_true', List.all_eq_true, decide_eq_false_iff_not, beq_eq_false_iff_ne] at h
  exact ⟨fun e => h.1 (by rw [e]; rfl), fun i hi => by have := h.2 i hi; omega⟩
theorem range_get {n k : Nat} (h : k < n) : (List.range n)[k]? = some k := by simp [h]
theorem headZ_get {p : List Int} (h : p ≠ []) : p[0]? = some (headZ p) := by
  cases p with
  | nil => exact absurd rfl h
  | cons x r => rfl
theorem pathK_get {paths : List (List Int)} {k : Int} (h : 0 ≤ k ∧ k < paths.length) : paths[k.toNat]? = some (pathK paths k) := by
  obtain ⟨x, hx⟩ := get_of_lt (l := paths) (k := k.toNat) (by omega)
  rw [pathK, hx]; rfl
theorem iget_get {p : List Int} {k : Nat} {y : Int} (h : p[k]? = some y) : iget p k = y := by simp [iget, h]
/-- what is left of a list that is held against paths -/
structure MG where
  k : Nat
  rest : List Tac
theorem madeR_step {f : BFunc} {p : List Int} {rest : List Tac} {k : Nat} {i : Int} (h : p[k]? = some i) : madeR f rest (p.drop k) = (decide ((f.blockAt i).ins.length ≤ rest.length) && (decide (rest.take (f.blockAt i).ins.length = (f.blockAt i).ins) && madeR f (rest.drop (f.blockAt i).ins.length) (p.drop (k + 1)))) := by
  obtain ⟨h1, h2⟩ := List.getElem?_eq_some_iff.1 h
  rw [List.drop_eq_getElem_cons h1, h2]; rfl
theorem tacs_take {l : List Tac} {n : Nat} : (l.map Tac.cells).take n = (l.take n).map Tac.cells := by rw [List.map_take]
theorem tacs_drop {l : List Tac} {n : Nat} : (l.map Tac.cells).drop n = (l.drop n).map Tac.cells := by rw [List.map_drop]
theorem check_bad1 {old new : BFunc} {paths : List (List Int)} (h : ¬ (paths.length ≠ 0 ∧ paths.length = new.blocks.length ∧ old.regs = new.regs)) : checkB old new paths = false := by
  rw [Bool.eq_false_iff]
  intro h2
  simp only [checkB, Bool.and_eq_true, Bool.not_eq_true', beq_eq_false_iff_ne, bne_eq_false_iff_eq] at h2
  exact h ⟨h2.1, h2.2.1, h2.2.2.1⟩
theorem check_bad2 {old new : BFunc} {paths : List (List Int)} (h : paths.all (pathIn old.blocks.length) = false) : checkB old new paths = false := by
  simp only [checkB, h, Bool.false_and, Bool.and_false]
theorem check_bad3 {old new : BFunc} {paths : List (List Int)} (h : (headZ (pathK paths 0) != 0) = true) : checkB old new paths = false := by
  simp only [checkB, h, Bool.not_true, Bool.false_and, Bool.and_false]
theorem check_bad4 {old new : BFunc} {paths : List (List Int)} (h : paths.zipIdx.all (stepB old new paths) = false) : checkB old new paths = false := by
  simp only [checkB, h, Bool.and_false]
theorem check_good {old new : BFunc} {paths : List (List Int)} (h1 : paths.length ≠ 0) (h2 : paths.length = new.blocks.length) (h3 : old.regs = new.regs) (h4 : paths.all (pathIn old.blocks.length) = true) (h5 : (headZ (pathK paths 0) != 0) = false) (h6 : paths.zipIdx.all (stepB old new paths) = true) : checkB old new paths = true := by
  have e1 : (paths.length == 0) = false := by simpa using h1
  have e2 : (paths.length != new.blocks.length) = false := by simp [h2]
  have e3 : (old.regs != new.regs) = false := by simp [h3]
  simp only [checkB, e1, e2, e3, h4, h5, h6]; rfl
end Go.Proofs.Ytidfabbnobipkaa.Sv

namespace Go.Proofs.Ytidfabbnobipkaa.Sv
open Go
set_option linter.unusedVariables false
set_option linter.unusedSimpArgs false
section
variable {P : Program} {T : Nat → Option TyI} {o : Oper} {e : AEnv} {h : AHeap}
theorem tac_sizes {l : List Tac} {j : TyI} (h8 : j.size = 8) : ∀ cs ∈ l.map Tac.cells, cs.length = j.size := fun cs h => by
  rw [h8]; exact (ins_sizes l).1 cs h
theorem q_front' (hT : TOk P T) {t : TypeId} {x : Operand} {y : Operand} {k : IntKind} {m : Nat} {z : Int} {l : List Tac} {i j : TyI} {u : Nat} (ho : o.op = .slice t x none (some y) none) (hx : look e x = some (insAV l)) (ht : T t = some i) (hk : i.k = .slice u) (hj : T u = some j ∧ j.size = 8)
    (hy : look e y = some (.int k z)) (hz : z = (m : Int)) (hm : m ≤ l.length) : QLoc P o e h [] (insAV (l.take m)) := by
  subst hz
  have := q_front (h := h) hT ho hx ht hk hj.1 hy (by simpa using hm) (tac_sizes hj.2)
  rwa [tacs_take] at this
theorem q_back' (hT : TOk P T) {t : TypeId} {x : Operand} {y : Operand} {k : IntKind} {m : Nat} {z : Int} {l : List Tac} {i j : TyI} {u : Nat} (ho : o.op = .slice t x (some y) none none) (hx : look e x = some (insAV l)) (ht : T t = some i) (hk : i.k = .slice u) (hj : T u = some j ∧ j.size = 8)
    (hy : look e y = some (.int k z)) (hz : z = (m : Int)) (hm : m ≤ l.length) : QLoc P o e h [] (insAV (l.drop m)) := by
  subst hz
  have := q_back (h := h) hT ho hx ht hk hj.1 hy (by simpa using hm) (tac_sizes hj.2)
  rwa [tacs_drop] at this
end
end Go.Proofs.Ytidfabbnobipkaa.Sv

namespace Go.Proofs.Ytidfabbnobipkaa.Sv
open Go
set_option linter.unusedVariables false
set_option linter.unusedSimpArgs false

section
variable {P : Program} {T : Nat → Option TyI} {o : Oper} {e : AEnv} {h : AHeap}
theorem QLoc.weak {R : List Nat} {x y : AV} (h0 : QLoc P o e h R x) (hxy : ∀ H ι v, Rel H ι x v → Rel H ι y v) : QLoc P o e h R y := fun H ι a w s hs g1 g2 => by
  obtain ⟨v, h1, h2⟩ := h0 H ι a w s hs g1 g2
  exact ⟨v, hxy _ _ _ h1, h2⟩
end
theorem agg_nil {H : Know} {ι : Lay} {cs : List AV} {v : Value} (h : Rel H ι (.agg (.nil :: cs)) v) : Rel H ι (.agg (.lst false [] :: cs)) v := by
  obtain ⟨us, rfl, hl, hr⟩ := h.agg_inv
  refine .agg _ _ _ (by simpa using hl) fun j x u h1 h2 => ?_
  cases j with
  | zero => simp at h1; subst h1; exact nil_empty (hr 0 .nil u (by simp) h2)
  | succ j => exact hr (j + 1) x u (by simpa using h1) h2
/-- nil in place of an empty list -/
theorem APure.nilThird {P : Program} {f : FuncId} {a b : AV} {R : AV → Prop} (h : APure P f [a, b, .lst false []] R) : APure P f [a, b, .nil] R := fun H w vs hra hk =>
  h H w vs ⟨by simpa using hra.1, fun j x v h1 h2 => by
    cases j with
    | zero => exact hra.2 0 x v h1 h2
    | succ j => cases j with
      | zero => exact hra.2 1 x v h1 h2
      | succ j => cases j with
        | zero => simp at h1; subst h1; exact nil_empty (hra.2 2 .nil v (by simp) h2)
        | succ j => simp at h1⟩ hk
def tacO (op : Int) : Tac := ⟨op, 0, 0, 0, 0, 0, 0, 0⟩
def awF : BFunc := ⟨1, [⟨[tacO 8], 1, 0, 2, 0⟩, ⟨[], 3, 0, 0, 0⟩, ⟨[tacO 9], 3, 0, 0, 0⟩]⟩
def awW : BFunc := ⟨1, [⟨[tacO 8, tacO 9], 3, 0, 0, 0⟩]⟩
theorem aw_tidy : awF.tidy = awW := by decide
theorem aw_paths : awF.tpaths = [[0, 2]] := by decide
theorem aw_check : checkB awF awW [[0, 2]] = true := by decide
theorem aw_check0 : checkB awF awW [[0]] = false := by decide
theorem aw_check1 : checkB awF awW [] = false := by decide
theorem aw_tame : awF.tame := by
  refine ⟨by decide, by decide, by unfold BFunc.leads; decide, fun k hk => ?_⟩
  match k with
  | 0 => decide
  | 1 => revert hk; decide
  | 2 => revert hk; decide
  | k + 3 =>
    have h3 : awF.reach[k + 3]? = none := List.getElem?_eq_none (by rw [reach_length]; show 3 ≤ k + 3; omega)
    rw [BFunc.headOf, h3] at hk
    simp at hk
/-! ### few -/
def insSum (l : List Block) : Nat := (l.map fun x => x.ins.length).sum
def BFunc.few (f : BFunc) (blocks most : Int) : Bool := !(decide ((f.blocks.length : Int) > blocks)) && decide ((insSum f.blocks : Int) ≤ most)
/-! ### Small -/
/-! ### made is: the instructions are those of the path -/
end Go.Proofs.Ytidfabbnobipkaa.Sv

namespace Go.Proofs.Ytidfabbnobipkaa.Sv
open Go
set_option linter.unusedVariables false
set_option linter.unusedSimpArgs false

end Go.Proofs.Ytidfabbnobipkaa.Sv

namespace Go.Proofs.Ytidfabbnobipkaa.Sv
open Go
set_option linter.unusedVariables false
set_option linter.unusedSimpArgs false
/-- lists of numbers, as they come in -/
def pathsOk (l : List (List Int)) : Prop := l.length * 24 ≤ reachBytes ∧ ∀ p ∈ l, p.length * 8 ≤ reachBytes
theorem pathsOk.len {l : List (List Int)} (h : pathsOk l) : l.length ≤ 10000000000000 ∧ ∀ p ∈ l, p.length ≤ big := by
  have h1 := h.1
  simp only [reachBytes] at h1
  refine ⟨?_, fun p hp => ?_⟩
  · have : l.length * 24 ≤ 140737488351232 := h1
    by_cases e : l.length ≤ 10000000000000
    · exact e
    · exfalso; omega
  · have h2 := h.2 p hp
    simp only [reachBytes] at h2
    simp only [big]; omega
end Go.Proofs.Ytidfabbnobipkaa.Sv

namespace Go.Proofs.Ytidfabbnobipkaa.Sv
open Go
set_option linter.unusedVariables false
set_option linter.unusedSimpArgs false

/-- each one jumps to the next -/
def fol (f : BFunc) : List Int → Prop
  | i :: j :: r => (f.blockAt i).fin = 1 ∧ (f.blockAt i).to = j ∧ fol f (j :: r)
  | _ => True
/-- all that a check says -/
structure Holds (old new : BFunc) (paths : List (List Int)) : Prop where
  ne : paths.length ≠ 0
  len : paths.length = new.blocks.length
  regs : old.regs = new.regs
  all : ∀ p ∈ paths, inF old.blocks.length p
  head : headZ (pathK paths 0) = 0
  fol : ∀ (k : Nat) (p : List Int), paths[k]? = some p → fol old p
  ins : ∀ (k : Nat) (p : List Int), paths[k]? = some p → (new.blockAt k).ins = old.joined p
  leads : ∀ (k : Nat) (p : List Int), paths[k]? = some p → leadsB (old.blockAt (lastOf p)) (new.blockAt k) paths = true
/-! ### one behind the other -/
section
variable {A B C : BFunc} {P Q : List (List Int)}
/-- facts of the first paths -/
theorem Holds.at_ (h : Holds A B P) {i : Int} (hi : 0 ≤ i ∧ i < P.length) : inF A.blocks.length (pathK P i) ∧ Sv.fol A (pathK P i) ∧ (B.blockAt i).ins = A.joined (pathK P i) ∧ leadsB (A.blockAt (lastOf (pathK P i))) (B.blockAt i) P = true := by
  have hg := pathK_get hi
  have e : (((i.toNat : Nat)) : Int) = i := Int.toNat_of_nonneg hi.1
  have h1 := h.ins _ _ hg
  have h2 := h.leads _ _ hg
  rw [e] at h1 h2
  exact ⟨h.all _ (List.mem_of_getElem? hg), h.fol _ _ hg, h1, h2⟩
end
end Go.Proofs.Ytidfabbnobipkaa.Sv

namespace Go.Proofs.Ytidfabbnobipkaa.Sv
open Go
set_option linter.unusedVariables false
set_option linter.unusedSimpArgs false

/-! ### what is reached -/
def isBeen (l : List Bool) (k : Int) : Prop := 0 ≤ k ∧ l[k.toNat]? = some true
structure DInv (next : List (List Int)) (s : DS) : Prop where
  seen : ∀ p ∈ s.way, ∀ (j : Nat) (t : Int), (j : Int) < p.2 → (rowAt next p.1)[j]? = some t → isBeen s.been t
  all : ∀ k, isBeen s.been k → (∀ t ∈ rowAt next k, isBeen s.been t) ∨ ∃ i, (k, i) ∈ s.way
theorem dinto_been {b : Int} {s : DS} {k : Int} (h : isBeen s.been k) : isBeen (dinto b s).been k := by
  unfold dinto
  cases e : notBeen s.been b with
  | false => exact h
  | true =>
    obtain ⟨h1, h2, h3⟩ := notBeen_get e
    refine ⟨h.1, ?_⟩
    simp only [cond_true]
    rw [List.getElem?_set]
    split
    · rename_i hh
      rw [if_pos (by omega)]
    · exact h.2
theorem dinto_self {b : Int} {s : DS} (h : 0 ≤ b ∧ b < s.been.length) : isBeen (dinto b s).been b := by
  unfold dinto
  cases e : notBeen s.been b with
  | true =>
    refine ⟨h.1, ?_⟩
    simp only [cond_true]
    rw [List.getElem?_set_self (by omega)]
  | false =>
    obtain ⟨v, hv⟩ := get_of_lt (l := s.been) (k := b.toNat) (by omega)
    refine ⟨h.1, ?_⟩
    simp only [cond_false]
    simp only [notBeen, hv, decide_eq_true h.1, decide_eq_true h.2, Option.getD_some] at e
    rw [hv]
    have : (decide (b ≥ 0)) = true := decide_eq_true h.1
    simp [this] at e
    rw [e]
theorem dinto_inv {next : List (List Int)} {b : Int} {s : DS} (h : DInv next s) : DInv next (dinto b s) := by
  refine ⟨fun p hp j t hj ht => ?_, fun k hk => ?_⟩
  · have hp' : p ∈ s.way ∨ p = (b, 0) := by
      unfold dinto at hp
      cases e : notBeen s.been b with
      | false => rw [e] at hp; exact .inl hp
      | true =>
        rw [e] at hp
        simp only [cond_true, List.mem_append, List.mem_singleton] at hp
        exact hp
    rcases hp' with hp' | rfl
    · exact dinto_been (h.seen p hp' j t hj ht)
    · simp only at hj; omega
  · by_cases hold : isBeen s.been k
    · rcases h.all k hold with h1 | ⟨i, h1⟩
      · exact .inl fun t ht => dinto_been (h1 t ht)
      · refine .inr ⟨i, ?_⟩
        unfold dinto
        cases notBeen s.been b with
        | false => exact h1
        | true => simp only [cond_true]; exact List.mem_append_left _ h1
    · right
      unfold dinto at hk ⊢
      cases e : notBeen s.been b with
      | false => rw [e] at hk; exact absurd hk hold
      | true =>
        rw [e] at hk
        simp only [cond_true] at hk ⊢
        obtain ⟨k1, k2⟩ := hk
        obtain ⟨h1, h2, h3⟩ := notBeen_get e
        rw [List.getElem?_set] at k2
        by_cases hh : b.toNat = k.toNat
        · have : k = b := by omega
          subst this
          exact ⟨0, by simp⟩
        · rw [if_neg hh] at k2
          exact absurd ⟨k1, k2⟩ hold
theorem dstep_inv {next : List (List Int)} {s : DS} (hok : s.ok next) (hlead : ∀ l ∈ next, ∀ t ∈ l, 0 ≤ t ∧ t < next.length) (h : DInv next s) : DInv next (dstep next s) := by
  unfold dstep
  split
  · exact h
  · rename_i b i e
    have hw := way_last e
    have hmem : (b, i) ∈ s.way := by rw [hw]; simp
    have hb := hok.way (b, i) hmem
    simp only at hb
    cases hi : decide (i < (rowAt next b).length) with
    | false =>
      have hi' : ¬ i < (rowAt next b).length := by simpa using hi
      simp only [cond_false]
      refine ⟨fun p hp => h.seen p (List.dropLast_subset _ hp), fun k hk => ?_⟩
      rcases h.all k hk with h1 | ⟨j, h1⟩
      · exact .inl h1
      · rw [hw] at h1
        rcases List.mem_append.1 h1 with h1 | h1
        · exact .inr ⟨j, h1⟩
        · simp only [List.mem_singleton, Prod.mk.injEq] at h1
          obtain ⟨rfl, rfl⟩ := h1
          left
          intro t ht
          obtain ⟨x, hx⟩ := List.getElem?_of_mem ht
          have hxl := (List.getElem?_eq_some_iff.1 hx).1
          exact h.seen (k, j) hmem x t (by simp only; omega) hx
    | true =>
      have hi' : i < (rowAt next b).length := by simpa using hi
      obtain ⟨t0, ht0⟩ := get_of_lt (l := rowAt next b) (k := i.toNat) (by omega)
      have hrow : rowAt next b ∈ next := by
        obtain ⟨l, hl⟩ := get_of_lt (l := next) (k := b.toNat) (by omega)
        rw [rowAt, hl]; exact List.mem_of_getElem? hl
      have ht0r := hlead _ hrow t0 (List.mem_of_getElem? ht0)
      simp only [cond_true, ht0, Option.getD_some]
      -- the way with one more looked at, where that one is been already
      have key : DInv next ⟨(dinto t0 ⟨s.been, s.way.dropLast ++ [(b, i + 1)]⟩).been, (dinto t0 ⟨s.been, s.way.dropLast ++ [(b, i + 1)]⟩).way⟩ := by
        have hself : isBeen (dinto t0 ⟨s.been, s.way.dropLast ++ [(b, i + 1)]⟩).been t0 := dinto_self (by show 0 ≤ t0 ∧ t0 < s.been.length; rw [hok.len]; exact ht0r)
        have hbeen : ∀ {k}, isBeen s.been k → isBeen (dinto t0 ⟨s.been, s.way.dropLast ++ [(b, i + 1)]⟩).been k := fun hk => dinto_been (s := ⟨s.been, s.way.dropLast ++ [(b, i + 1)]⟩) hk
        have hway : ∀ p ∈ (dinto t0 ⟨s.been, s.way.dropLast ++ [(b, i + 1)]⟩).way, p ∈ s.way.dropLast ∨ p = (b, i + 1) ∨ p = (t0, 0) := fun p hp => by
          unfold dinto at hp
          cases e2 : notBeen s.been t0 with
          | false => rw [e2] at hp; simp only [cond_false, List.mem_append, List.mem_singleton] at hp; rcases hp with hp | hp <;> simp [hp]
          | true => rw [e2] at hp; simp only [cond_true, List.mem_append, List.mem_singleton] at hp; rcases hp with (hp | hp) | hp <;> simp [hp]
        have hway2 : ∀ p, p ∈ s.way.dropLast ∨ p = (b, i + 1) → p ∈ (dinto t0 ⟨s.been, s.way.dropLast ++ [(b, i + 1)]⟩).way := fun p hp => by
          unfold dinto
          cases notBeen s.been t0 <;> simp only [cond_true, cond_false, List.mem_append, List.mem_singleton] <;> rcases hp with hp | hp <;> simp [hp]
        refine ⟨fun p hp j t hj ht => ?_, fun k hk => ?_⟩
        · rcases hway p hp with hp | rfl | rfl
          · exact hbeen (h.seen p (List.dropLast_subset _ hp) j t hj ht)
          · simp only at hj ht
            by_cases hji : (j : Int) < i
            · exact hbeen (h.seen (b, i) hmem j t hji ht)
            · have : j = i.toNat := by omega
              subst this
              rw [ht0] at ht
              cases ht
              exact hself
          · simp only at hj; omega
        · by_cases hold : isBeen s.been k
          · rcases h.all k hold with h1 | ⟨j, h1⟩
            · exact .inl fun t ht => hbeen (h1 t ht)
            · right
              rw [hw] at h1
              rcases List.mem_append.1 h1 with h1 | h1
              · exact ⟨j, hway2 _ (.inl h1)⟩
              · simp only [List.mem_singleton, Prod.mk.injEq] at h1
                obtain ⟨rfl, rfl⟩ := h1
                exact ⟨_, hway2 _ (.inr rfl)⟩
          · right
            unfold dinto at hk ⊢
            cases e2 : notBeen s.been t0 with
            | false => rw [e2] at hk; exact absurd hk hold
            | true =>
              rw [e2] at hk
              simp only [cond_true] at hk ⊢
              obtain ⟨k1, k2⟩ := hk
              rw [List.getElem?_set] at k2
              by_cases hh : t0.toNat = k.toNat
              · have : k = t0 := by omega
                subst this
                exact ⟨0, by simp⟩
              · rw [if_neg hh] at k2
                exact absurd ⟨k1, k2⟩ hold
      exact key
theorem drun_inv {next : List (List Int)} (hlead : ∀ l ∈ next, ∀ t ∈ l, 0 ≤ t ∧ t < next.length) : ∀ (g : Nat) (s : DS), s.ok next → DInv next s → dmu next s < g → DInv next (drun next g s) ∧ (drun next g s).way = []
  | 0, _, _, _, h => absurd h (by omega)
  | g + 1, s, hok, h, hg => by
    by_cases hne : s.way = []
    · rw [drun_end hne]; exact ⟨h, hne⟩
    · rw [drun_step hne]
      have := dstep_mu hok hne
      exact drun_inv hlead g _ (dstep_ok hok) (dstep_inv hok hlead h) (by omega)
theorem drun_been {next : List (List Int)} {k : Int} : ∀ (g : Nat) (s : DS), isBeen s.been k → isBeen (drun next g s).been k
  | 0, _, h => h
  | g + 1, s, h => by
    unfold drun
    split
    · exact h
    · refine drun_been g _ ?_
      unfold dstep
      split
      · exact h
      · rename_i b i e
        cases decide (i < ((rowAt next b).length : Int)) with
        | true => exact dinto_been (s := ⟨s.been, s.way.dropLast ++ [(b, i + 1)]⟩) h
        | false => exact h
/-- what is reached: the first one, and what follows -/
theorem reach_closed {next : List (List Int)} (hn : next ≠ []) (hlead : ∀ l ∈ next, ∀ t ∈ l, 0 ≤ t ∧ t < next.length) :
    isBeen (dreach next (List.replicate next.length false)) 0 ∧ ∀ k, isBeen (dreach next (List.replicate next.length false)) k → ∀ t ∈ rowAt next k, isBeen (dreach next (List.replicate next.length false)) t := by
  have hpos := List.length_pos_iff.2 hn
  have hok0 : (DS.mk (List.replicate next.length false) []).ok next := ⟨by simp, fun p hp => by cases hp⟩
  have h0 : DInv next (DS.mk (List.replicate next.length false) []) := ⟨fun p hp => (by cases hp), fun k hk => by
    have h2 : (List.replicate next.length false)[k.toNat]? = some true := hk.2
    have h3 : (true : Bool) ∈ List.replicate next.length false := List.mem_of_getElem? h2
    have := List.eq_of_mem_replicate h3
    cases this⟩
  have key := drun_inv hlead (dmu next (dstart (List.replicate next.length false)) + 1) (dstart (List.replicate next.length false)) (dinto_ok hok0) (dinto_inv h0) (Nat.lt_succ_self _)
  refine ⟨drun_been _ _ (dinto_self (by show (0 : Int) ≤ 0 ∧ (0 : Int) < ((List.replicate next.length false).length : Int); simp; omega)), fun k hk t ht => ?_⟩
  rcases key.1.all k hk with h1 | ⟨i, h1⟩
  · exact h1 t ht
  · rw [key.2] at h1; cases h1
/-! ### ways are counted -/
theorem iget_iset {l : List Int} {z y v : Int} (hz : 0 ≤ z ∧ z < l.length) (hy : 0 ≤ y) : iget (iset l z v) y = bif y == z then v else iget l y := by
  unfold iget iset
  rw [List.getElem?_set]
  by_cases h : y = z
  · subst h
    have : y.toNat < l.length := by omega
    simp [this]
  · have h1 : ¬ z.toNat = y.toNat := by omega
    have h2 : (y == z) = false := by simpa using h
    rw [if_neg h1, h2]; rfl
theorem bumps_count : ∀ (l : List Int) (w : List Int) (k : Int), (∀ t ∈ l, 0 ≤ t ∧ t < w.length) → 0 ≤ k → iget (l.foldl bump w) k = iget w k + (l.count k : Int)
  | [], w, k, _, _ => by simp
  | t :: r, w, k, h, hk => by
    rw [List.foldl_cons, bumps_count r (bump w t) k (fun x hx => by rw [bump_length]; exact h x (by simp [hx])) hk, bump, iget_iset (h t (by simp)) hk, List.count_cons]
    by_cases e : k = t
    · subst e; simp; omega
    · have h1 : (k == t) = false := by simpa using e
      have h2 : (t == k) = false := by simp; exact fun h => e h.symm
      rw [h1, h2]; simp
theorem ways_ge {next : List (List Int)} {reach : List Bool} (hlead : ∀ l ∈ next, ∀ t ∈ l, 0 ≤ t ∧ t < next.length) {k : Int} (hk : 0 ≤ k) : ∀ (m : Nat), m ≤ next.length →
    0 ≤ iget (waysAt next reach m) k ∧ (∀ i, i < m → reach[i]? = some true → k ∈ (next[i]?).getD [] → 1 ≤ iget (waysAt next reach m) k) ∧
    (∀ i j, i < j → j < m → reach[i]? = some true → reach[j]? = some true → k ∈ (next[i]?).getD [] → k ∈ (next[j]?).getD [] → 2 ≤ iget (waysAt next reach m) k)
  | 0, _ => by
    refine ⟨?_, fun i hi => absurd hi (by omega), fun i j hi hj => absurd hj (by omega)⟩
    unfold waysAt iget
    rw [List.getElem?_replicate]
    split <;> simp
  | m + 1, hm => by
    obtain ⟨h0, h1, h2⟩ := ways_ge (reach := reach) hlead hk m (by omega)
    obtain ⟨l, hl⟩ := get_of_lt (l := next) (k := m) (by omega)
    have hlen := waysAt_length next reach m
    have hcount := bumps_count l (waysAt next reach m) k (fun t ht => by rw [hlen]; exact hlead l (List.mem_of_getElem? hl) t ht) hk
    have e : waysAt next reach (m + 1) = bif (reach[m]?).getD false then l.foldl bump (waysAt next reach m) else waysAt next reach m := by
      rw [waysAt, hl]; rfl
    have hge : iget (waysAt next reach m) k ≤ iget (waysAt next reach (m + 1)) k := by
      rw [e]
      cases (reach[m]?).getD false with
      | true => rw [cond_true, hcount]; omega
      | false => exact Int.le_refl _
    have hmk : reach[m]? = some true → k ∈ l → iget (waysAt next reach (m + 1)) k = iget (waysAt next reach m) k + (l.count k : Int) ∧ 1 ≤ l.count k := fun hr hkl => by
      rw [e, hr]
      exact ⟨hcount, List.count_pos_iff.2 hkl⟩
    refine ⟨by omega, fun i hi hr hki => ?_, fun i j hij hj hri hrj hki hkj => ?_⟩
    · by_cases him : i = m
      · subst him
        rw [hl] at hki
        obtain ⟨a, b⟩ := hmk hr hki
        omega
      · have := h1 i (by omega) hr hki
        omega
    · by_cases hjm : j = m
      · subst hjm
        rw [hl] at hkj
        obtain ⟨a, b⟩ := hmk hrj hkj
        have := h1 i (by omega) hri hki
        omega
      · have := h2 i j hij (by omega) hri hrj hki hkj
        omega
end Go.Proofs.Ytidfabbnobipkaa.Sv

namespace Go.Proofs.Ytidfabbnobipkaa.Sv
open Go
set_option linter.unusedVariables false
set_option linter.unusedSimpArgs false

section
variable {f : BFunc}
theorem leadN (hle : f.leads) : ∀ l ∈ f.nexts, ∀ t ∈ l, 0 ≤ t ∧ t < f.nexts.length := fun l hl t ht => by
  rw [nexts_length]; exact hle l hl t ht
theorem row_at (hle : f.leads) {i : Int} (hi : 0 ≤ i ∧ i < f.blocks.length) : rowAt f.nexts i = (f.blockAt i).nexts := by
  rw [rowAt, nexts_get (blockAt_get hi)]; rfl
theorem been_in (hle : f.leads) {k : Int} (h : isBeen f.reach k) : 0 ≤ k ∧ k < f.blocks.length := by
  obtain ⟨h1, h2⟩ := h
  have := (List.getElem?_eq_some_iff.1 h2).1
  rw [reach_length] at this
  omega
theorem tk_at (hle : f.leads) {i : Int} (hi : 0 ≤ i ∧ i < f.blocks.length) : iget f.tk i = takeOf f.nexts f.reach i.toNat (f.blockAt i) := by
  rw [iget, BFunc.tk, takes_get (blockAt_get hi)]; rfl
/-- what is taken in by whom -/
theorem tk_spec (hle : f.leads) {i : Int} (hi : 0 ≤ i ∧ i < f.blocks.length) (h : iget f.tk i ≠ -1) : iget f.tk i = (f.blockAt i).to ∧ isBeen f.reach i ∧ (f.blockAt i).fin = 1 ∧ (f.blockAt i).to ≠ 0 ∧ iget (waysF f.nexts f.reach) (f.blockAt i).to = 1 ∧ 0 ≤ (f.blockAt i).to ∧ (f.blockAt i).to < f.blocks.length := by
  rw [tk_at hle hi] at h ⊢
  unfold takeOf at h ⊢
  cases e : (f.reach[i.toNat]?).getD false && ((f.blockAt i).fin == 1 && ((f.blockAt i).to != 0 && ((f.blockAt i).to != (i.toNat : Int) && iget (waysF f.nexts f.reach) (f.blockAt i).to == 1))) with
  | false => rw [e] at h; exact absurd rfl h
  | true =>
    simp only [Bool.and_eq_true, beq_iff_eq, bne_iff_ne, ne_eq] at e
    obtain ⟨e1, e2, e3, e4, e5⟩ := e
    have hto := leads_to hle (blockAt_get hi) (.inl e2)
    refine ⟨rfl, ⟨hi.1, ?_⟩, e2, e3, e5, hto.1, hto.2⟩
    cases hr : f.reach[i.toNat]? with
    | none => rw [hr] at e1; cases e1
    | some v => rw [hr] at e1; simp at e1; rw [e1]
theorem tk_only (hle : f.leads) {i l k : Int} (hi : 0 ≤ i ∧ i < f.blocks.length) (hk : iget f.tk i = k) (hne : k ≠ -1) (hl : isBeen f.reach l) (hm : k ∈ (f.blockAt l).nexts) : l = i := by
  obtain ⟨a1, a2, a3, a4, a5, a6, a7⟩ := tk_spec hle hi (by rw [hk]; exact hne)
  rw [hk] at a1
  have hlr := been_in hle hl
  have hnl := nexts_length f
  have hki : k ∈ (f.blockAt i).nexts := by simp [Block.nexts, a3, a1]
  have gi : (f.nexts[i.toNat]?).getD [] = (f.blockAt i).nexts := by rw [nexts_get (blockAt_get hi)]; rfl
  have gl : (f.nexts[l.toNat]?).getD [] = (f.blockAt l).nexts := by rw [nexts_get (blockAt_get hlr)]; rfl
  have w := (ways_ge (reach := f.reach) (leadN hle) (k := k) (by rw [a1]; exact a6) f.nexts.length (Nat.le_refl _)).2.2
  rw [← a1] at a5
  unfold waysF at a5
  by_cases h1 : i.toNat < l.toNat
  · have := w i.toNat l.toNat h1 (by omega) a2.2 hl.2 (by rw [gi]; exact hki) (by rw [gl]; exact hm)
    omega
  · by_cases h2 : l.toNat < i.toNat
    · have := w l.toNat i.toNat h2 (by omega) hl.2 a2.2 (by rw [gl]; exact hm) (by rw [gi]; exact hki)
      omega
    · omega
theorem taken_by (hle : f.leads) : ∀ (m : Nat), m ≤ f.blocks.length → ∀ (k : Nat), (f.takenAt f.reach m)[k]? = some true → ∃ i : Int, 0 ≤ i ∧ i < m ∧ iget f.tk i = k
  | 0, _, k, h => by
    unfold BFunc.takenAt at h
    have := List.eq_of_mem_replicate (List.mem_of_getElem? h)
    cases this
  | m + 1, hm, k, h => by
    obtain ⟨x, hx⟩ := get_of_lt (l := f.blocks) (k := m) (by omega)
    rw [takenAt_succ hx] at h
    have hxm : f.blockAt m = x := by simp [BFunc.blockAt, hx]
    have hi : 0 ≤ (m : Int) ∧ (m : Int) < f.blocks.length := by omega
    have ht := tk_at hle hi
    rw [Int.toNat_natCast, hxm] at ht
    cases e : takeOf f.nexts f.reach m x == -1 with
    | true =>
      rw [e] at h
      obtain ⟨i, i1, i2, i3⟩ := taken_by hle m (by omega) k h
      exact ⟨i, i1, by omega, i3⟩
    | false =>
      rw [e] at h
      simp only [cond_false] at h
      rw [List.getElem?_set] at h
      have hne : takeOf f.nexts f.reach m x ≠ -1 := by simpa using e
      have hs := tk_spec hle hi (by rw [ht]; exact hne)
      rw [hxm] at hs
      by_cases h2 : x.to.toNat = k
      · exact ⟨m, hi.1, by omega, by rw [hs.1]; omega⟩
      · rw [if_neg h2] at h
        obtain ⟨i, i1, i2, i3⟩ := taken_by hle m (by omega) k h
        exact ⟨i, i1, by omega, i3⟩
theorem taken_of (hle : f.leads) : ∀ (m : Nat), m ≤ f.blocks.length → ∀ (i : Int), 0 ≤ i → i < m → iget f.tk i ≠ -1 → (f.takenAt f.reach m)[(iget f.tk i).toNat]? = some true
  | 0, _, i, h1, h2, _ => absurd h2 (by omega)
  | m + 1, hm, i, h1, h2, hne => by
    obtain ⟨x, hx⟩ := get_of_lt (l := f.blocks) (k := m) (by omega)
    rw [takenAt_succ hx]
    have hxm : f.blockAt m = x := by simp [BFunc.blockAt, hx]
    have hi : 0 ≤ (m : Int) ∧ (m : Int) < f.blocks.length := by omega
    have ht := tk_at hle hi
    rw [Int.toNat_natCast, hxm] at ht
    have hlen := takenAt_length f f.reach m
    by_cases him : i = m
    · subst him
      rw [ht] at hne ⊢
      have e : (takeOf f.nexts f.reach m x == -1) = false := by simpa using hne
      have hs := tk_spec hle hi (by rw [ht]; exact hne)
      rw [hxm, ht] at hs
      rw [e, cond_false, hs.1, List.getElem?_set_self (by omega)]
    · have ih := taken_of hle m (by omega) i h1 (by omega) hne
      cases e : takeOf f.nexts f.reach m x == -1 with
      | true => exact ih
      | false =>
        simp only [cond_false]
        rw [List.getElem?_set]
        by_cases h3 : x.to.toNat = (iget f.tk i).toNat
        · rw [if_pos h3, if_pos (by rw [h3]; exact (List.getElem?_eq_some_iff.1 ih).1)]
        · rw [if_neg h3]; exact ih
/-- a head is not taken in -/
theorem head_free (hle : f.leads) {k : Nat} (h : f.headOf k = true) : isBeen f.reach k ∧ ∀ i : Int, 0 ≤ i ∧ i < f.blocks.length → iget f.tk i ≠ (k : Int) := by
  simp only [BFunc.headOf, Bool.and_eq_true, Bool.not_eq_true'] at h
  obtain ⟨h1, h2⟩ := h
  refine ⟨⟨by omega, ?_⟩, fun i hi e => ?_⟩
  · rw [Int.toNat_natCast]
    cases hr : f.reach[k]? with
    | none => rw [hr] at h1; cases h1
    | some v => rw [hr] at h1; simp at h1; rw [h1]
  · have := taken_of hle f.blocks.length (Nat.le_refl _) i hi.1 hi.2 (by rw [e]; omega)
    rw [e, Int.toNat_natCast] at this
    rw [this] at h2; cases h2
theorem head_of (hle : f.leads) {t : Int} (h : isBeen f.reach t) (hn : ∀ i : Int, 0 ≤ i ∧ i < f.blocks.length → iget f.tk i ≠ t) : f.headOf t.toNat = true := by
  have ht := been_in hle h
  obtain ⟨v, hv⟩ := get_of_lt (l := f.takenAt f.reach f.blocks.length) (k := t.toNat) (by rw [takenAt_length]; omega)
  rw [headOf_eq h.2 hv]
  cases v with
  | false => rfl
  | true =>
    obtain ⟨i, i1, i2, i3⟩ := taken_by hle f.blocks.length (Nat.le_refl _) t.toNat hv
    exact absurd (by rw [i3]; omega) (hn i ⟨i1, i2⟩)
theorem ends_gen (hle : f.leads) {k : Int} (hk : ∀ i : Int, 0 ≤ i ∧ i < f.blocks.length → iget f.tk i ≠ k) : ∀ (g : Nat) (c : Int) (marks : List Bool), marks.length = f.blocks.length → isBeen marks c →
    (∀ w, isBeen marks w → w = k ∨ ∃ u, isBeen marks u ∧ u ≠ c ∧ iget f.tk u = w) → unb marks ≤ g → ends f.tk g c = true := by
  have step : ∀ (c : Int) (marks : List Bool), marks.length = f.blocks.length → isBeen marks c → (∀ w, isBeen marks w → w = k ∨ ∃ u, isBeen marks u ∧ u ≠ c ∧ iget f.tk u = w) → iget f.tk c ≠ -1 → 0 ≤ iget f.tk c ∧ iget f.tk c < f.blocks.length ∧ marks[(iget f.tk c).toNat]? = some false := fun c marks hl hc hw hne => by
    have hin : ∀ {u}, isBeen marks u → 0 ≤ u ∧ u < f.blocks.length := fun {u} hu => by
      have := (List.getElem?_eq_some_iff.1 hu.2).1
      have := hu.1
      omega
    obtain ⟨a1, a2, a3, a4, a5, a6, a7⟩ := tk_spec hle (hin hc) hne
    rw [← a1] at a6 a7
    refine ⟨a6, a7, ?_⟩
    obtain ⟨v, hv⟩ := get_of_lt (l := marks) (k := (iget f.tk c).toNat) (by omega)
    cases v with
    | false => exact hv
    | true =>
      exfalso
      rcases hw (iget f.tk c) ⟨a6, hv⟩ with h | ⟨u, u1, u2, u3⟩
      · exact hk c (hin hc) h
      · refine u2 ?_
        have hs := tk_spec hle (hin u1) (by rw [u3]; exact hne)
        refine tk_only hle (hin hc) rfl hne hs.2.1 ?_
        rw [← u3, hs.1]
        simp [Block.nexts, hs.2.2.1]
  intro g
  induction g with
  | zero =>
    intro c marks hl hc hw hu
    by_cases hne : iget f.tk c = -1
    · simp [ends, hne]
    · obtain ⟨a, b, e⟩ := step c marks hl hc hw hne
      have := unb_set e
      omega
  | succ g ih =>
    intro c marks hl hc hw hu
    by_cases hne : iget f.tk c = -1
    · simp [ends, hne]
    · obtain ⟨a, b, e⟩ := step c marks hl hc hw hne
      have hus := unb_set e
      have hnew : ∀ w, isBeen (marks.set (iget f.tk c).toNat true) w ↔ w = iget f.tk c ∨ isBeen marks w := fun w => by
        constructor
        · rintro ⟨h1, h2⟩
          rw [List.getElem?_set] at h2
          by_cases h3 : (iget f.tk c).toNat = w.toNat
          · exact .inl (by omega)
          · rw [if_neg h3] at h2; exact .inr ⟨h1, h2⟩
        · rintro (rfl | ⟨h1, h2⟩)
          · exact ⟨a, List.getElem?_set_self (by omega)⟩
          · refine ⟨h1, ?_⟩
            rw [List.getElem?_set]
            by_cases h3 : (iget f.tk c).toNat = w.toNat
            · rw [if_pos h3, if_pos (by omega)]
            · rw [if_neg h3]; exact h2
      have hcc : c ≠ iget f.tk c := fun h => by
        have := hc.2
        rw [h, e] at this; cases this
      have := ih (iget f.tk c) (marks.set (iget f.tk c).toNat true) (by simpa using hl) ((hnew _).2 (.inl rfl)) (fun w hw2 => ?_) (by omega)
      · unfold ends
        rw [this]; simp
      · rcases (hnew w).1 hw2 with rfl | hw3
        · exact .inr ⟨c, (hnew c).2 (.inr hc), hcc, rfl⟩
        · rcases hw w hw3 with h | ⟨u, u1, u2, u3⟩
          · exact .inl h
          · refine .inr ⟨u, (hnew u).2 (.inr u1), fun h => ?_, u3⟩
            have := u1.2
            rw [h, e] at this; cases this
theorem unb_rep (n : Nat) : unb (List.replicate n false) = n := by simp [unb]
theorem head_ends (hle : f.leads) {k : Nat} (h : f.headOf k = true) : ends f.tk f.tk.length k = true := by
  obtain ⟨h1, h2⟩ := head_free hle h
  have hk := been_in hle h1
  have hl : f.tk.length = f.blocks.length := takes_length f _
  have hget : (List.replicate f.blocks.length false)[k]? = some false := by
    rw [List.getElem?_replicate, if_pos (by omega)]
  have hu := unb_set hget
  have hr : unb (List.replicate f.blocks.length false) = f.blocks.length := by simp [unb]
  refine ends_gen hle h2 f.tk.length k ((List.replicate f.blocks.length false).set k true) (by simp) ⟨by omega, by rw [Int.toNat_natCast, List.getElem?_set_self (by simp; omega)]⟩ (fun w hw => ?_) (by omega)
  left
  obtain ⟨w1, w2⟩ := hw
  rw [List.getElem?_set] at w2
  by_cases h3 : k = w.toNat
  · omega
  · rw [if_neg h3] at w2
    have := List.eq_of_mem_replicate (List.mem_of_getElem? w2)
    cases this
/-! ### paths -/
end
end Go.Proofs.Ytidfabbnobipkaa.Sv

namespace Go.Proofs.Ytidfabbnobipkaa.Sv
open Go
set_option linter.unusedVariables false
set_option linter.unusedSimpArgs false

inductive Reaches (next : List (List Int)) : Int → Prop
  | zero : Reaches next 0
  | step (k t : Int) : Reaches next k → t ∈ rowAt next k → Reaches next t
/-- nothing else is marked -/
structure DOnly (next : List (List Int)) (s : DS) : Prop where
  been : ∀ k, isBeen s.been k → Reaches next k
  way : ∀ p ∈ s.way, Reaches next p.1
theorem dinto_only {next : List (List Int)} {b : Int} {s : DS} (hb : Reaches next b) (h : DOnly next s) : DOnly next (dinto b s) := by
  unfold dinto
  cases e : notBeen s.been b with
  | false => exact h
  | true =>
    obtain ⟨h1, h2, h3⟩ := notBeen_get e
    simp only [cond_true]
    refine ⟨fun k hk => ?_, fun p hp => ?_⟩
    · obtain ⟨k1, k2⟩ := hk
      rw [List.getElem?_set] at k2
      by_cases hh : b.toNat = k.toNat
      · have : k = b := by omega
        rw [this]; exact hb
      · rw [if_neg hh] at k2
        exact h.been k ⟨k1, k2⟩
    · simp only [List.mem_append, List.mem_singleton] at hp
      rcases hp with hp | rfl
      · exact h.way p hp
      · exact hb
theorem dstep_only {next : List (List Int)} {s : DS} (hok : s.ok next) (h : DOnly next s) : DOnly next (dstep next s) := by
  unfold dstep
  split
  · exact h
  · rename_i b i e
    have hw := way_last e
    have hmem : (b, i) ∈ s.way := by rw [hw]; simp
    have hb := hok.way (b, i) hmem
    simp only at hb
    cases hi : decide (i < (rowAt next b).length) with
    | false => exact ⟨h.been, fun p hp => h.way p (List.dropLast_subset _ hp)⟩
    | true =>
      have hi' : i < (rowAt next b).length := by simpa using hi
      obtain ⟨t0, ht0⟩ := get_of_lt (l := rowAt next b) (k := i.toNat) (by omega)
      simp only [cond_true, ht0, Option.getD_some]
      refine dinto_only (.step b t0 (h.way _ hmem) (List.mem_of_getElem? ht0)) ⟨h.been, fun p hp => ?_⟩
      simp only [List.mem_append, List.mem_singleton] at hp
      rcases hp with hp | rfl
      · exact h.way p (List.dropLast_subset _ hp)
      · exact h.way (b, i) hmem
theorem drun_only {next : List (List Int)} : ∀ (g : Nat) (s : DS), s.ok next → DOnly next s → DOnly next (drun next g s)
  | 0, _, _, h => h
  | g + 1, s, hok, h => by
    unfold drun
    split
    · exact h
    · exact drun_only g _ (dstep_ok hok) (dstep_only hok h)
theorem reach_iff {next : List (List Int)} (hn : next ≠ []) (hlead : ∀ l ∈ next, ∀ t ∈ l, 0 ≤ t ∧ t < next.length) (k : Int) : isBeen (dreach next (List.replicate next.length false)) k ↔ Reaches next k := by
  obtain ⟨r0, rc⟩ := reach_closed hn hlead
  constructor
  · intro hk
    have hok0 : (DS.mk (List.replicate next.length false) []).ok next := ⟨by simp, fun p hp => by cases hp⟩
    have h0 : DOnly next (DS.mk (List.replicate next.length false) []) := ⟨fun k hk => (by
      have h2 : (List.replicate next.length false)[k.toNat]? = some true := hk.2
      have := List.eq_of_mem_replicate (List.mem_of_getElem? h2)
      cases this), fun p hp => (by cases hp)⟩
    exact (drun_only _ _ (dinto_ok hok0) (dinto_only .zero h0)).been k hk
  · intro hk
    induction hk with
    | zero => exact r0
    | step k t _ ht ih => exact rc k ih t ht
end Go.Proofs.Ytidfabbnobipkaa.Sv

namespace Go.Proofs.Ytidfabbnobipkaa.Sv
open Go
set_option linter.unusedVariables false
set_option linter.unusedSimpArgs false

/-! ### how many ways lead to one -/
def rowN (next : List (List Int)) (m : Nat) : List Int := (next[m]?).getD []
def cntTo (next : List (List Int)) (reach : List Bool) (k : Int) : Nat → Nat
  | 0 => 0
  | m + 1 => cntTo next reach k m + (bif (reach[m]?).getD false then (rowN next m).count k else 0)
theorem ways_cnt {next : List (List Int)} {reach : List Bool} (hlead : ∀ l ∈ next, ∀ t ∈ l, 0 ≤ t ∧ t < next.length) {k : Int} (hk : 0 ≤ k) : ∀ m, m ≤ next.length → iget (waysAt next reach m) k = (cntTo next reach k m : Int)
  | 0, _ => by
    unfold waysAt iget cntTo
    rw [List.getElem?_replicate]
    split <;> simp
  | m + 1, hm => by
    have ih := ways_cnt (reach := reach) hlead hk m (by omega)
    obtain ⟨l, hl⟩ := get_of_lt (l := next) (k := m) (by omega)
    have hlen := waysAt_length next reach m
    have e : waysAt next reach (m + 1) = bif (reach[m]?).getD false then l.foldl bump (waysAt next reach m) else waysAt next reach m := by
      rw [waysAt, hl]; rfl
    have e2 : rowN next m = l := by rw [rowN, hl]; rfl
    rw [e, cntTo, e2]
    cases (reach[m]?).getD false with
    | true => rw [cond_true, cond_true, bumps_count l _ k (fun t ht => by rw [hlen]; exact hlead l (List.mem_of_getElem? hl) t ht) hk, ih]; omega
    | false => rw [cond_false, cond_false, ih]; omega
theorem cnt_le {next : List (List Int)} {reach : List Bool} {k : Int} : ∀ {m i : Nat}, i < m → reach[i]? = some true → (rowN next i).count k ≤ cntTo next reach k m
  | 0, i, h, _ => absurd h (by omega)
  | m + 1, i, h, hr => by
    unfold cntTo
    by_cases him : i = m
    · subst him
      rw [hr]
      simp only [Option.getD_some, cond_true]; omega
    · have := cnt_le (next := next) (k := k) (m := m) (by omega) hr
      omega
theorem cnt_pos {next : List (List Int)} {reach : List Bool} {k : Int} : ∀ {m : Nat}, 1 ≤ cntTo next reach k m → ∃ i, i < m ∧ reach[i]? = some true ∧ k ∈ rowN next i
  | 0, h => by simp [cntTo] at h
  | m + 1, h => by
    unfold cntTo at h
    by_cases h1 : 1 ≤ cntTo next reach k m
    · obtain ⟨i, i1, i2, i3⟩ := cnt_pos h1
      exact ⟨i, by omega, i2, i3⟩
    · cases e : reach[m]? with
      | none => rw [e] at h; simp at h; omega
      | some v =>
        cases v with
        | false => rw [e] at h; simp at h; omega
        | true =>
          rw [e] at h
          simp only [Option.getD_some, cond_true] at h
          exact ⟨m, by omega, e, List.count_pos_iff.1 (by omega)⟩
theorem cnt_two {next : List (List Int)} {reach : List Bool} {k : Int} : ∀ {m : Nat}, 2 ≤ cntTo next reach k m →
    (∃ i j, i < j ∧ j < m ∧ reach[i]? = some true ∧ reach[j]? = some true ∧ k ∈ rowN next i ∧ k ∈ rowN next j) ∨ (∃ i, i < m ∧ reach[i]? = some true ∧ 2 ≤ (rowN next i).count k)
  | 0, h => by simp [cntTo] at h
  | m + 1, h => by
    unfold cntTo at h
    by_cases h2 : 2 ≤ cntTo next reach k m
    · rcases cnt_two h2 with ⟨i, j, a, b, c⟩ | ⟨i, a, b⟩
      · exact .inl ⟨i, j, a, by omega, c⟩
      · exact .inr ⟨i, by omega, b⟩
    · have e : reach[m]? = some true := by
        cases e : reach[m]? with
        | none => rw [e] at h; simp at h; omega
        | some v =>
          cases v with
          | false => rw [e] at h; simp at h; omega
          | true => rfl
      rw [e] at h
      simp only [Option.getD_some, cond_true] at h
      by_cases h1 : 1 ≤ cntTo next reach k m
      · obtain ⟨i, i1, i2, i3⟩ := cnt_pos h1
        exact .inl ⟨i, m, i1, by omega, i2, e, i3, List.count_pos_iff.1 (by omega)⟩
      · exact .inr ⟨m, by omega, e, by omega⟩
/-! ### chains -/
section
variable {f : BFunc}
theorem reach_cl (hle : f.leads) (hn : f.blocks ≠ []) : isBeen f.reach 0 ∧ ∀ k, isBeen f.reach k → ∀ t ∈ rowAt f.nexts k, isBeen f.reach t := by
  have hnn : f.nexts ≠ [] := by simpa [BFunc.nexts] using hn
  exact reach_closed hnn (leadN hle)
theorem reach_is (hle : f.leads) (hn : f.blocks ≠ []) (k : Int) : isBeen f.reach k ↔ Reaches f.nexts k := by
  have hnn : f.nexts ≠ [] := by simpa [BFunc.nexts] using hn
  exact reach_iff hnn (leadN hle) k
theorem head_zero (hle : f.leads) (hn : f.blocks ≠ []) : f.headOf 0 = true := head_of hle (t := 0) (reach_cl hle hn).1 (fun i hi e => by
    have := tk_spec hle hi (by rw [e]; decide)
    rw [e] at this
    exact this.2.2.2.1 this.1.symm)
end
end Go.Proofs.Ytidfabbnobipkaa.Sv

namespace Go.Proofs.Ytidfabbnobipkaa.Sv
open Go
set_option linter.unusedVariables false
set_option linter.unusedSimpArgs false

section
variable {f : BFunc}
/-! ### tidied again -/
structure Done (g : BFunc) : Prop where
  reach : ∀ k : Nat, k < g.blocks.length → isBeen g.reach k
  tk : ∀ i : Int, 0 ≤ i ∧ i < g.blocks.length → iget g.tk i = -1
section
variable {g : BFunc}
end
end
end Go.Proofs.Ytidfabbnobipkaa.Sv

namespace Go.Proofs.Ytidfabbnobipkaa.Sv
open Go
set_option linter.unusedVariables false
set_option linter.unusedSimpArgs false
end Go.Proofs.Ytidfabbnobipkaa.Sv

namespace Go.Proofs.Ytidfabbnobipkaa.Sv
open Go
set_option linter.unusedVariables false
set_option linter.unusedSimpArgs false

/-! ### as integers -/
end Go.Proofs.Ytidfabbnobipkaa.Sv

namespace Go.Proofs.Ytidfabbnobipkaa.Sv
open Go
set_option linter.unusedVariables false
set_option linter.unusedSimpArgs false

section
variable {P : Program} {T : Nat → Option TyI} {o : Oper} {e : AEnv} {h : AHeap}
end
end Go.Proofs.Ytidfabbnobipkaa.Sv

namespace Go.Proofs.Ytidfabbnobipkaa.Sv
open Go
set_option linter.unusedVariables false

/-- one block by itself -/
def alone (f : BFunc) (x : Block) : BFunc := ⟨f.regs, [⟨x.ins, 3, 0, 0, 0⟩]⟩
/-! ### folded again -/
end Go.Proofs.Ytidfabbnobipkaa.Sv

namespace Go.Proofs.Ytidfabbnobipkaa.Sv
open Go
set_option linter.unusedVariables false
set_option linter.unusedSimpArgs false

end Go.Proofs.Ytidfabbnobipkaa.Sv

namespace Go.Proofs.Ytidfabbnobipkaa.Sv
open Go
set_option linter.unusedVariables false
set_option linter.unusedSimpArgs false

/-! ### Apply on numbers -/
end Go.Proofs.Ytidfabbnobipkaa.Sv

namespace Go.Proofs.Ytidfabbnobipkaa.Sv
open Go
set_option linter.unusedVariables false
set_option linter.unusedSimpArgs false

end Go.Proofs.Ytidfabbnobipkaa.Sv

namespace Go.Proofs.Ytidfabbnobipkaa.Sv
open Go
set_option linter.unusedVariables false
set_option linter.unusedSimpArgs false

section
variable {P : Program} {T : Nat → Option TyI} {o : Oper} {e : AEnv} {h : AHeap}
end
end Go.Proofs.Ytidfabbnobipkaa.Sv

namespace Go.Proofs.Ytidfabbnobipkaa.Sv
open Go
set_option linter.unusedVariables false
set_option linter.unusedSimpArgs false

structure Mach where
  words : List Int
  out : List UInt8
  read : Nat
  steps : Nat
  fin : Int
def rget (l : List Int) (z : Int) : Int := (l[z.toNat]?).getD 0
def rset (l : List Int) (z v : Int) : List Int := l.set z.toNat v
def byteOf (n : Int) : UInt8 := UInt8.ofNat n.toNat
def inAt (s : ByteArray) (i : Nat) : UInt8 := (s.data.toList[i]?).getD 0
def mstep (fuel : Int) (m : Mach) : Bool × Mach := bif decide ((m.steps : Int) ≥ fuel) then (false, { m with fin := 5 }) else (true, { m with steps := m.steps + 1 })
/-- one instruction -/
def mone (call : Int → Mach → Mach) (s : ByteArray) (t : Tac) (regs : List Int) (m : Mach) : List Int × Mach :=
  bif t.op == 1 then (rset regs t.d t.n, m)
  else bif t.op == 2 then (rset regs t.d (rget regs t.a), m)
  else bif t.op == 3 then
    (bif (wapp t.k (rget regs t.a) (rget regs t.b)).2 == 0 then (rset regs t.d (wapp t.k (rget regs t.a) (rget regs t.b)).1, m) else (regs, { m with fin := 2 }))
  else bif t.op == 4 then (rset regs t.d (rget m.words t.base), m)
  else bif t.op == 5 then (regs, { m with words := rset m.words t.base (rget regs t.a) })
  else bif t.op == 6 then (bif decide (rget regs t.a ≥ t.size) then (regs, { m with fin := 3 }) else (rset regs t.d (rget m.words (t.base + rget regs t.a)), m))
  else bif t.op == 7 then (bif decide (rget regs t.a ≥ t.size) then (regs, { m with fin := 3 }) else (regs, { m with words := rset m.words (t.base + rget regs t.a) (rget regs t.b) }))
  else bif t.op == 8 then (bif decide (m.read < s.size) then (rset regs t.d ((inAt s m.read).toNat : Int), { m with read := m.read + 1 }) else (rset regs t.d 256, m))
  else bif t.op == 9 then (bif decide (m.out.length ≥ 65536) then (regs, { m with fin := 4 }) else (regs, { m with out := m.out ++ [byteOf (rget regs t.a)] }))
  else bif t.op == 10 then (regs, call t.base m)
  else (regs, m)
def mins (call : Int → Mach → Mach) (s : ByteArray) (fuel : Int) : List Tac → List Int → Mach → Bool × List Int × Mach
  | [], regs, m => (true, regs, m)
  | t :: r, regs, m =>
    bif (mstep fuel m).1 then
      (bif (mone call s t regs (mstep fuel m).2).2.fin == 0 then mins call s fuel r (mone call s t regs (mstep fuel m).2).1 (mone call s t regs (mstep fuel m).2).2
       else (false, mone call s t regs (mstep fuel m).2))
    else (false, regs, (mstep fuel m).2)
/-- where it goes on -/
def Block.next (k : Block) (regs : List Int) : Int := bif k.fin == 2 && rget regs k.v == 0 then k.els else k.to
def mblk (call : Int → Mach → Mach) (s : ByteArray) (fuel : Int) (f : BFunc) : Nat → Int → List Int → Mach → Mach
  | 0, _, _, m => m
  | g + 1, i, regs, m =>
    match f.blocks[i.toNat]? with
    | none => m
    | some k =>
      let p := mins call s fuel k.ins regs m
      bif p.1 then
        (bif (mstep fuel p.2.2).1 && !(k.fin == 3) then mblk call s fuel f g (k.next p.2.1) p.2.1 (mstep fuel p.2.2).2 else (mstep fuel p.2.2).2)
      else p.2.2
/-! ### what stays -/
def allR (l : List Int) : Prop := ∀ v ∈ l, isW v
theorem rget_w {l : List Int} (h : allR l) (z : Int) : isW (rget l z) := by
  unfold rget
  cases e : l[z.toNat]? with
  | none => exact isW_zero
  | some v => exact h v (List.mem_of_getElem? e)
theorem rset_w {l : List Int} (h : allR l) (z : Int) {v : Int} (hv : isW v) : allR (rset l z v) := fun u hu => by
  unfold rset at hu
  rcases List.mem_or_eq_of_mem_set hu with hu | rfl
  · exact h u hu
  · exact hv
theorem rset_length (l : List Int) (z v : Int) : (rset l z v).length = l.length := by simp [rset]
theorem byte_w (c : UInt8) : isW ((c.toNat : Nat) : Int) := by
  have : c.toNat < 256 := UInt8.toNat_lt c
  constructor <;> omega
/-- the state is one that may be -/
structure Mach.good (W : Nat) (m : Mach) : Prop where
  len : m.words.length = W
  words : allR m.words
  out : m.out.length ≤ 65536
theorem mstep_good {fuel : Int} {m : Mach} {W : Nat} (h : m.good W) : (mstep fuel m).2.good W := by
  unfold mstep
  cases decide ((m.steps : Int) ≥ fuel) <;> exact ⟨h.1, h.2, h.3⟩
theorem mstep_steps (fuel : Int) (m : Mach) : m.steps ≤ (mstep fuel m).2.steps := by
  unfold mstep
  cases decide ((m.steps : Int) ≥ fuel) <;> simp
theorem mone_good {call : Int → Mach → Mach} {s : ByteArray} {W : Nat} (hc : ∀ i m, m.good W → (call i m).good W) (t : Tac) (ht : isW t.n) {regs : List Int} {m : Mach} (hr : allR regs) (h : m.good W) :
    allR (mone call s t regs m).1 ∧ (mone call s t regs m).1.length = regs.length ∧ (mone call s t regs m).2.good W := by
  have ha := rget_w hr t.a
  have hb := rget_w hr t.b
  unfold mone
  cases t.op == 1 with
  | true => exact ⟨rset_w hr _ ht, rset_length _ _ _, h⟩
  | false =>
  cases t.op == 2 with
  | true => exact ⟨rset_w hr _ ha, rset_length _ _ _, h⟩
  | false =>
  cases t.op == 3 with
  | true =>
    simp only [cond_true, cond_false]
    cases (wapp t.k (rget regs t.a) (rget regs t.b)).2 == 0 with
    | true => exact ⟨rset_w hr _ (wapp_word ha hb), rset_length _ _ _, h⟩
    | false => exact ⟨hr, rfl, ⟨h.1, h.2, h.3⟩⟩
  | false =>
  cases t.op == 4 with
  | true => exact ⟨rset_w hr _ (rget_w h.2 _), rset_length _ _ _, h⟩
  | false =>
  cases t.op == 5 with
  | true => exact ⟨hr, rfl, ⟨by simp only [cond_true, cond_false]; rw [rset_length]; exact h.1, rset_w h.2 _ ha, h.3⟩⟩
  | false =>
  cases t.op == 6 with
  | true =>
    simp only [cond_true, cond_false]
    cases decide (rget regs t.a ≥ t.size) with
    | true => exact ⟨hr, rfl, ⟨h.1, h.2, h.3⟩⟩
    | false => exact ⟨rset_w hr _ (rget_w h.2 _), rset_length _ _ _, h⟩
  | false =>
  cases t.op == 7 with
  | true =>
    simp only [cond_true, cond_false]
    cases decide (rget regs t.a ≥ t.size) with
    | true => exact ⟨hr, rfl, ⟨h.1, h.2, h.3⟩⟩
    | false => exact ⟨hr, rfl, ⟨by simp only [cond_false]; rw [rset_length]; exact h.1, rset_w h.2 _ hb, h.3⟩⟩
  | false =>
  cases t.op == 8 with
  | true =>
    simp only [cond_true, cond_false]
    cases decide (m.read < s.size) with
    | true => exact ⟨rset_w hr _ (byte_w _), rset_length _ _ _, ⟨h.1, h.2, h.3⟩⟩
    | false => exact ⟨rset_w hr _ ⟨by omega, by omega⟩, rset_length _ _ _, h⟩
  | false =>
  cases t.op == 9 with
  | true =>
    simp only [cond_true, cond_false]
    cases e : decide (m.out.length ≥ 65536) with
    | true => exact ⟨hr, rfl, ⟨h.1, h.2, h.3⟩⟩
    | false =>
      refine ⟨hr, rfl, ⟨h.1, h.2, ?_⟩⟩
      simp only [cond_false, List.length_append, List.length_cons, List.length_nil]
      simp at e; omega
  | false =>
  cases t.op == 10 with
  | true => exact ⟨hr, rfl, hc _ _ h⟩
  | false => exact ⟨hr, rfl, h⟩
theorem mone_steps {call : Int → Mach → Mach} {s : ByteArray} (hc : ∀ i m, m.steps ≤ (call i m).steps) (t : Tac) (regs : List Int) (m : Mach) : m.steps ≤ (mone call s t regs m).2.steps := by
  unfold mone
  cases t.op == 1 with
  | true => exact Nat.le_refl _
  | false =>
  cases t.op == 2 with
  | true => exact Nat.le_refl _
  | false =>
  cases t.op == 3 with
  | true =>
    simp only [cond_true, cond_false]
    cases (wapp t.k (rget regs t.a) (rget regs t.b)).2 == 0 <;> exact Nat.le_refl _
  | false =>
  cases t.op == 4 with
  | true => exact Nat.le_refl _
  | false =>
  cases t.op == 5 with
  | true => exact Nat.le_refl _
  | false =>
  cases t.op == 6 with
  | true =>
    simp only [cond_true, cond_false]
    cases decide (rget regs t.a ≥ t.size) <;> exact Nat.le_refl _
  | false =>
  cases t.op == 7 with
  | true =>
    simp only [cond_true, cond_false]
    cases decide (rget regs t.a ≥ t.size) <;> exact Nat.le_refl _
  | false =>
  cases t.op == 8 with
  | true =>
    simp only [cond_true, cond_false]
    cases decide (m.read < s.size) <;> exact Nat.le_refl _
  | false =>
  cases t.op == 9 with
  | true =>
    simp only [cond_true, cond_false]
    cases e : decide (m.out.length ≥ 65536) <;> exact Nat.le_refl _
  | false =>
  cases t.op == 10 with
  | true => exact hc _ _
  | false => exact Nat.le_refl _
theorem allR_rep (n : Nat) : allR (List.replicate n 0) := fun v hv => by
  rw [List.eq_of_mem_replicate hv]; exact isW_zero
def Blocks.insW (b : Blocks) : Prop := ∀ f ∈ b.funcs, ∀ x ∈ f.blocks, Sv.insW x.ins
end Go.Proofs.Ytidfabbnobipkaa.Sv

namespace Go.Proofs.Ytidfabbnobipkaa.Sv
open Go
set_option linter.unusedVariables false
set_option linter.unusedSimpArgs false

section
variable {P : Program} {T : Nat → Option TyI} {o : Oper} {e : AEnv} {h : AHeap}
theorem q_convTo (hT : TOk P T) {t u : TypeId} {x : Operand} {k k' : IntKind} {n r : Int} {i j : TyI} (ho : o.op = .convert t u x) (hx : look e x = some (.int k' n)) (hi : T t = some i) (hj : T u = some j) (hk : j.k = .int k) (hw : k.wrap n = r) : QLoc P o e h [] (.int k r) := by
  have := q_convInt (h := h) hT ho hx hi hj hk
  rwa [hw] at this
end
/-! ### instructions one by one -/
section
variable {call : Int → Mach → Mach} {s : ByteArray} {t : Tac} {regs : List Int} {m : Mach}
end
/-- what the ranges of an instruction say -/
structure TacIn (t : Tac) (number R : Nat) (words : Nat) : Prop where
  op : 1 ≤ t.op ∧ t.op ≤ 10
  d : setsOp t.op = true → 0 ≤ t.d ∧ t.d < R
  a : use1 t.op = true ∨ use2 t.op = true → 0 ≤ t.a ∧ t.a < R
  b : use2 t.op = true → 0 ≤ t.b ∧ t.b < R
  base : t.op = 4 ∨ t.op = 5 → 0 ≤ t.base ∧ t.base < words
  arr : t.op = 6 ∨ t.op = 7 → 1 ≤ t.size ∧ t.size ≤ 4096 ∧ 0 ≤ t.base ∧ t.base + t.size ≤ words
  call : t.op = 10 → 0 ≤ t.base ∧ t.base < number
/-! ### the rounds -/
structure FG where
  i : Int
  regs : List Int
  m : Mach
  g : Nat
structure IG where
  j : Nat
  regs : List Int
  m : Mach
section
variable {call : Int → Mach → Mach} {s : ByteArray} {fuel : Int} {f : BFunc} {W R : Nat} {tgt : Mach} {q : FG} {k : Block} {r : IG}
structure FInv (call : Int → Mach → Mach) (s : ByteArray) (fuel : Int) (f : BFunc) (W R : Nat) (tgt : Mach) (q : FG) : Prop where
  good : q.m.good W
  fin : q.m.fin = 0
  regs : allR q.regs
  len : q.regs.length = R
  i : 0 ≤ q.i ∧ q.i < f.blocks.length
  g : 0 < q.g
  gas : fuel.toNat < q.m.steps + q.g
  tgt : mblk call s fuel f q.g q.i q.regs q.m = tgt
structure IInv (call : Int → Mach → Mach) (s : ByteArray) (fuel : Int) (k : Block) (q : FG) (W R : Nat) (r : IG) : Prop where
  good : r.m.good W
  fin : r.m.fin = 0
  regs : allR r.regs
  len : r.regs.length = R
  j : r.j ≤ k.ins.length
  steps : q.m.steps ≤ r.m.steps
  eq : mins call s fuel (k.ins.drop r.j) r.regs r.m = mins call s fuel k.ins q.regs q.m
theorem FInv.unfold (h : FInv call s fuel f W R tgt q) (hk : f.blocks[q.i.toNat]? = some k) : tgt =
    (bif (mins call s fuel k.ins q.regs q.m).1 then
        (bif (mstep fuel (mins call s fuel k.ins q.regs q.m).2.2).1 && !(k.fin == 3) then mblk call s fuel f (q.g - 1) (k.next (mins call s fuel k.ins q.regs q.m).2.1) (mins call s fuel k.ins q.regs q.m).2.1 (mstep fuel (mins call s fuel k.ins q.regs q.m).2.2).2 else (mstep fuel (mins call s fuel k.ins q.regs q.m).2.2).2)
      else (mins call s fuel k.ins q.regs q.m).2.2) := by
  have h1 := h.tgt
  obtain ⟨g, hg⟩ : ∃ g, q.g = g + 1 := ⟨q.g - 1, by have := h.g; omega⟩
  rw [hg] at h1 ⊢
  rw [← h1, mblk, hk]; rfl
theorem IInv.head (hi : IInv call s fuel k q W R r) {u : Tac} (hu : k.ins[r.j]? = some u) : mins call s fuel k.ins q.regs q.m = mins call s fuel (u :: k.ins.drop (r.j + 1)) r.regs r.m := by
  rw [← hi.eq]
  have hl := (List.getElem?_eq_some_iff.1 hu)
  obtain ⟨h1, h2⟩ := hl
  rw [List.drop_eq_getElem_cons h1, h2]
theorem IInv.next (hi : IInv call s fuel k q W R r) (hcg : ∀ i m, m.good W → (call i m).good W) (hcs : ∀ i m, m.steps ≤ (call i m).steps) {u : Tac} (hu : k.ins[r.j]? = some u) (hw : isW u.n) (hs : (mstep fuel r.m).1 = true) (hz : ((mone call s u r.regs (mstep fuel r.m).2).2.fin != 0) = false) :
    IInv call s fuel k q W R ⟨r.j + 1, (mone call s u r.regs (mstep fuel r.m).2).1, (mone call s u r.regs (mstep fuel r.m).2).2⟩ := by
  have hz' : ((mone call s u r.regs (mstep fuel r.m).2).2.fin) = 0 := by simpa using hz
  have hg := mone_good (s := s) hcg u hw hi.regs (mstep_good (fuel := fuel) hi.good)
  refine ⟨hg.2.2, hz', hg.1, hg.2.1.trans hi.len, (List.getElem?_eq_some_iff.1 hu).1, ?_, ?_⟩
  · exact Nat.le_trans hi.steps (Nat.le_trans (mstep_steps fuel r.m) (mone_steps hcs u r.regs _))
  · rw [hi.head hu]
    dsimp only
    conv => rhs; rw [mins]
    rw [hs, hz']; rfl
theorem IInv.done (hi : IInv call s fuel k q W R r) (hj : k.ins.length ≤ r.j) : mins call s fuel k.ins q.regs q.m = (true, r.regs, r.m) := by
  rw [← hi.eq, List.drop_eq_nil_of_le hj]; rfl
theorem mstep_true {m : Mach} (hs : (mstep fuel m).1 = true) : (m.steps : Int) < fuel ∧ (mstep fuel m).2 = { m with steps := m.steps + 1 } := by
  unfold mstep at *
  cases e : decide ((m.steps : Int) ≥ fuel) with
  | true => rw [e] at hs; cases hs
  | false => simp at e; exact ⟨e, rfl⟩
theorem FInv.next (h : FInv call s fuel f W R tgt q) (hk : f.blocks[q.i.toNat]? = some k) (hi : IInv call s fuel k q W R r) (hj : k.ins.length ≤ r.j) (hs : (mstep fuel r.m).1 = true) (hf : (k.fin == 3) = false) (hn : 0 ≤ k.next r.regs ∧ k.next r.regs < f.blocks.length) :
    FInv call s fuel f W R tgt ⟨k.next r.regs, r.regs, (mstep fuel r.m).2, q.g - 1⟩ ∧ q.g - 1 < q.g := by
  obtain ⟨h1, h2⟩ := mstep_true hs
  have hg := h.g
  have hgas := h.gas
  have hst := hi.steps
  refine ⟨⟨mstep_good hi.good, by rw [h2]; exact hi.fin, hi.regs, hi.len, hn, ?_, ?_, ?_⟩, by omega⟩
  · rw [show (FG.mk (k.next r.regs) r.regs (mstep fuel r.m).2 (q.g - 1)).g = q.g - 1 from rfl]; omega
  · rw [h2]; dsimp only; omega
  · rw [h.unfold hk, hi.done hj]
    simp only [hs, hf, Bool.not_false, Bool.and_true, cond_true]
end
theorem FInv.first {call : Int → Mach → Mach} {s : ByteArray} {fuel : Int} {f : BFunc} {W : Nat} {m : Mach} (hm : m.good W) (h0 : m.fin = 0) (hf : f.blocks ≠ []) :
    FInv call s fuel f W f.regs.toNat (mblk call s fuel f (fuel.toNat + 1) 0 (List.replicate f.regs.toNat 0) m) ⟨0, List.replicate f.regs.toNat 0, m, fuel.toNat + 1⟩ :=
  ⟨hm, h0, allR_rep _, by simp, ⟨by show (0 : Int) ≤ 0; omega, by show (0 : Int) < _; have := List.length_pos_iff.2 hf; omega⟩, Nat.succ_pos _, by show fuel.toNat < m.steps + (fuel.toNat + 1); omega, rfl⟩
end Go.Proofs.Ytidfabbnobipkaa.Sv

namespace Go.Proofs.Ytidfabbnobipkaa.Sv
open Go
set_option linter.unusedVariables false
set_option linter.unusedSimpArgs false

/-- alike, with no more steps -/
structure Mach.Le (m m' : Mach) : Prop where
  words : m'.words = m.words
  out : m'.out = m.out
  read : m'.read = m.read
  fin : m'.fin = m.fin
  steps : m'.steps ≤ m.steps
/-- the first one had no fuel, or both are alike -/
def Mach.Sim (x y : Mach) : Prop := x.fin = 5 ∨ x.Le y
theorem Mach.Le.refl (m : Mach) : m.Le m := ⟨rfl, rfl, rfl, rfl, Nat.le_refl _⟩
theorem Mach.Le.put {m m' : Mach} (h : m.Le m') (w : List Int) (o : List UInt8) (r : Nat) (f : Int) : Mach.Le ⟨w, o, r, m.steps, f⟩ ⟨w, o, r, m'.steps, f⟩ := ⟨rfl, rfl, rfl, rfl, h.steps⟩
section
variable {call call' : Int → Mach → Mach} {s : ByteArray} {fuel : Int}
end
end Go.Proofs.Ytidfabbnobipkaa.Sv

namespace Go.Proofs.Ytidfabbnobipkaa.Sv
open Go
set_option linter.unusedVariables false
set_option linter.unusedSimpArgs false

section
variable {call call' : Int → Mach → Mach} {s : ByteArray} {fuel : Int}
variable {ok : Int → Prop} {old new : BFunc}
end
def Blocks.put (b : Blocks) (f : BFunc) : Blocks := ⟨b.words, b.funcs.set (b.funcs.length - 1) f⟩
/-! ### it may be -/
end Go.Proofs.Ytidfabbnobipkaa.Sv

namespace Go.Proofs.Ytidfabbnobipkaa.Sv
open Go
set_option linter.unusedVariables false
set_option linter.unusedSimpArgs false
end Go.Proofs.Ytidfabbnobipkaa.Sv

namespace Go.Proofs.Ytidfabbnobipkaa.Sv
open Go
set_option linter.unusedVariables false
set_option linter.unusedSimpArgs false
end Go.Proofs.Ytidfabbnobipkaa.Sv

namespace Go.Proofs.Ytidfabbnobipkaa.Sv
open Go
set_option linter.unusedVariables false
set_option linter.unusedSimpArgs false

structure BS where
  been : List Bool
  q : List Int
def binto (s : BS) (k : Int) : BS := bif notBeen s.been k then ⟨s.been.set k.toNat true, s.q ++ [k]⟩ else s
def bround (next : List (List Int)) (s : BS) : BS :=
  match s.q with
  | [] => s
  | at' :: r => (rowAt next at').foldl binto ⟨s.been, r⟩
def brun (next : List (List Int)) : Nat → BS → BS
  | 0, s => s
  | g + 1, s => if s.q.isEmpty then s else brun next g (bround next s)
def bstart (n : Nat) : BS := ⟨(List.replicate n false).set 0 true, [0]⟩
def breach (next : List (List Int)) : List Bool := (brun next (next.length + 1) (bstart next.length)).been
def bmu (s : BS) : Nat := unb s.been + s.q.length

theorem binto_mu (s : BS) (k : Int) : bmu (binto s k) = bmu s := by
  unfold binto bmu
  cases e : notBeen s.been k with
  | false => rfl
  | true =>
    obtain ⟨h1, h2, h3⟩ := notBeen_get e
    have := unb_set h3
    simp only [cond_true, List.length_append, List.length_singleton]
    omega
theorem bintos_mu : ∀ (l : List Int) (s : BS), bmu (l.foldl binto s) = bmu s
  | [], _ => rfl
  | k :: r, s => by rw [List.foldl_cons, bintos_mu r, binto_mu]
theorem bround_mu {next : List (List Int)} {s : BS} (h : s.q ≠ []) : bmu (bround next s) + 1 = bmu s := by
  unfold bround
  split
  · rename_i e; exact absurd e h
  · rename_i at' r e
    rw [bintos_mu]
    simp only [bmu, e, List.length_cons]
    omega
theorem unb_start (n : Nat) (h : 0 < n) : unb ((List.replicate n false).set 0 true) + 1 = n := by
  have h1 : (List.replicate n false)[0]? = some false := by rw [List.getElem?_replicate, if_pos h]
  have h2 := unb_set h1
  rw [unb_rep] at h2
  exact h2
theorem brun_step {next : List (List Int)} {g : Nat} {s : BS} (h : s.q ≠ []) : brun next (g + 1) s = brun next g (bround next s) := by
  show (if s.q.isEmpty then s else _) = _
  rw [if_neg (by simpa using h)]
theorem brun_end {next : List (List Int)} {g : Nat} {s : BS} (h : s.q = []) : brun next g s = s := by
  cases g with
  | zero => rfl
  | succ g => show (if s.q.isEmpty then s else _) = _; rw [if_pos (by simp [h])]
theorem set_been {l : List Bool} {i : Nat} {k : Int} (h : isBeen l k) : isBeen (l.set i true) k := by
  obtain ⟨h1, h2⟩ := h
  refine ⟨h1, ?_⟩
  rw [List.getElem?_set]
  have hlt := (List.getElem?_eq_some_iff.1 h2).1
  split
  · rename_i he
    rw [he, if_pos hlt]
  · exact h2
/-- what holds of a state in the midst -/
structure BInv (next : List (List Int)) (s : BS) : Prop where
  len : s.been.length = next.length
  q : ∀ k ∈ s.q, 0 ≤ k ∧ k < next.length
  qb : ∀ k ∈ s.q, isBeen s.been k
  zero : isBeen s.been 0
  only : ∀ k, isBeen s.been k → Reaches next k
theorem binto_inv {next : List (List Int)} {s : BS} {b : Int} (h : BInv next s) (hb : Reaches next b) : BInv next (binto s b) := by
  unfold binto
  cases e : notBeen s.been b with
  | false => exact h
  | true =>
    obtain ⟨h1, h2, h3⟩ := notBeen_get e
    have hself : isBeen (s.been.set b.toNat true) b := ⟨h1, by rw [List.getElem?_set_self (by omega)]⟩
    refine ⟨by simp [h.len], fun k hk => ?_, fun k hk => ?_, set_been h.zero, fun k hk => ?_⟩
    · simp only [cond_true, List.mem_append, List.mem_singleton] at hk
      rcases hk with hk | rfl
      · exact h.q k hk
      · rw [← h.len]; exact ⟨h1, h2⟩
    · simp only [cond_true, List.mem_append, List.mem_singleton] at hk
      rcases hk with hk | rfl
      · exact set_been (h.qb k hk)
      · exact hself
    · obtain ⟨k1, k2⟩ := hk
      simp only [cond_true] at k2
      rw [List.getElem?_set] at k2
      by_cases hh : b.toNat = k.toNat
      · have : k = b := by omega
        rw [this]; exact hb
      · rw [if_neg hh] at k2
        exact h.only k ⟨k1, k2⟩
theorem bintos_inv {next : List (List Int)} : ∀ (l : List Int) (s : BS), BInv next s → (∀ t ∈ l, Reaches next t) → BInv next (l.foldl binto s)
  | [], _, h, _ => h
  | b :: r, s, h, hl => bintos_inv r _ (binto_inv h (hl b (by simp))) (fun t ht => hl t (by simp [ht]))
/-- all that follows who was looked at is marked -/
def BDone (next : List (List Int)) (s : BS) : Prop := ∀ k, isBeen s.been k → k ∈ s.q ∨ ∀ t ∈ rowAt next k, isBeen s.been t
theorem bround_ok {next : List (List Int)} {s : BS} (h : BInv next s) : BInv next (bround next s) := by
  unfold bround
  split
  · exact h
  · rename_i at' r e
    have hat : at' ∈ s.q := by rw [e]; simp
    have h0 : BInv next ⟨s.been, r⟩ := ⟨h.len, fun k hk => h.q k (by rw [e]; simp [hk]), fun k hk => h.qb k (by rw [e]; simp [hk]), h.zero, h.only⟩
    exact bintos_inv _ _ h0 (fun t ht => .step at' t (h.only at' (h.qb at' hat)) ht)
theorem bstart_inv {next : List (List Int)} (hn : next ≠ []) : BInv next (bstart next.length) ∧ BDone next (bstart next.length) ∧ bmu (bstart next.length) < next.length + 1 := by
  have hpos := List.length_pos_iff.2 hn
  have h0 : isBeen ((List.replicate next.length false).set 0 true) 0 := ⟨by omega, by show (List.set _ 0 true)[0]? = _; rw [List.getElem?_set_self (by simpa using hpos)]⟩
  have honly : ∀ k, isBeen ((List.replicate next.length false).set 0 true) k → k = 0 := fun k hk => by
    obtain ⟨k1, k2⟩ := hk
    rw [List.getElem?_set] at k2
    by_cases hh : 0 = k.toNat
    · omega
    · rw [if_neg hh] at k2
      have := List.eq_of_mem_replicate (List.mem_of_getElem? k2)
      cases this
  refine ⟨⟨by simp [bstart], fun k hk => ?_, fun k hk => ?_, h0, fun k hk => by rw [honly k hk]; exact .zero⟩, fun k hk => .inl (by rw [honly k hk]; simp [bstart]), ?_⟩
  · simp only [bstart, List.mem_singleton] at hk; subst hk; omega
  · simp only [bstart, List.mem_singleton] at hk; subst hk; exact h0
  · have := unb_start next.length hpos
    simp only [bmu, bstart, List.length_singleton]
    omega
end Go.Proofs.Ytidfabbnobipkaa.Sv

namespace Go.Proofs.Ytidfabbnobipkaa.Sv
open Go
set_option linter.unusedVariables false
set_option linter.unusedSimpArgs false

section
variable {f : BFunc}
def BFunc.inN (f : BFunc) (k : Int) : Nat := cntTo f.nexts f.reach k f.nexts.length
theorem ways_inN (hle : f.leads) {k : Int} (hk : 0 ≤ k) : iget (waysF f.nexts f.reach) k = (f.inN k : Int) := ways_cnt (leadN hle) hk _ (Nat.le_refl _)
theorem rowN_block (hle : f.leads) {i : Nat} (hi : i < f.blocks.length) : rowN f.nexts i = (f.blockAt i).nexts := by
  have h := blockAt_get (f := f) (i := (i : Int)) (by omega)
  rw [Int.toNat_natCast] at h
  rw [rowN, nexts_get h]; rfl
/-- the number of the first path that begins with a block -/
def headI (paths : List (List Int)) (a : Int) : Int :=
  match paths.findIdx? (fun p => decide (p.length > 0) && headZ p == a) with
  | some i => (i : Int)
  | none => -1
theorem headI_none {paths : List (List Int)} {a : Int} (hno : ∀ p ∈ paths, (decide (p.length > 0) && headZ p == a) = false) : headI paths a = -1 := by
  unfold headI
  rw [List.findIdx?_eq_none_iff.2 (fun p hp => by rw [hno p hp])]
end
end Go.Proofs.Ytidfabbnobipkaa.Sv

namespace Go.Proofs.Ytidfabbnobipkaa.Sv
open Go
set_option linter.unusedVariables false
set_option linter.unusedSimpArgs false

/-- blocks in a row -/
structure Chainy (f : BFunc) (p : List Int) : Prop where
  nd : p.Nodup
  mem : ∀ x, x ∈ p ↔ 0 ≤ x ∧ x < f.blocks.length
  zero : p[0]? = some 0
  next : ∀ (j : Nat) (x y : Int), p[j]? = some x → p[j + 1]? = some y → (f.blockAt x).fin = 1 ∧ (f.blockAt x).to = y
  last : ∀ (j : Nat) (x : Int), p[j]? = some x → p[j + 1]? = none → (f.blockAt x).fin = 3
section
variable {f : BFunc} {p : List Int}
theorem Chainy.get_inj (h : Chainy f p) {i j : Nat} {x : Int} (hi : p[i]? = some x) (hj : p[j]? = some x) : i = j := by
  obtain ⟨a, b⟩ := List.getElem?_eq_some_iff.1 hi
  obtain ⟨c, d⟩ := List.getElem?_eq_some_iff.1 hj
  exact (List.getElem_inj h.nd).1 (b.trans d.symm)
theorem Chainy.nexts (h : Chainy f p) {j : Nat} {x : Int} (hx : p[j]? = some x) : (f.blockAt x).nexts = match p[j + 1]? with | some y => [y] | none => [] := by
  cases e : p[j + 1]? with
  | some y => obtain ⟨h1, h2⟩ := h.next j x y hx e; simp [Block.nexts, h1, h2]
  | none => have h1 := h.last j x hx e; simp [Block.nexts, h1]
theorem Chainy.leads (h : Chainy f p) : f.leads := fun l hl t ht => by
  simp only [BFunc.nexts, List.mem_map] at hl
  obtain ⟨b, hb, rfl⟩ := hl
  obtain ⟨k, hk⟩ := List.getElem?_of_mem hb
  have hkl := (List.getElem?_eq_some_iff.1 hk).1
  have hin : (k : Int) ∈ p := (h.mem k).2 (by omega)
  obtain ⟨j, hj⟩ := List.getElem?_of_mem hin
  have hbk : f.blockAt (k : Int) = b := by simp [BFunc.blockAt, hk]
  have := h.nexts hj
  rw [hbk] at this
  rw [this] at ht
  cases e : p[j + 1]? with
  | none => rw [e] at ht; simp at ht
  | some y =>
    rw [e] at ht
    simp at ht
    subst ht
    exact (h.mem t).1 (List.mem_of_getElem? e)
theorem Chainy.ne (h : Chainy f p) : f.blocks ≠ [] := fun e => by
  have := (h.mem 0).1 (List.mem_of_getElem? h.zero)
  rw [e] at this; simp at this
theorem Chainy.reaches (h : Chainy f p) : ∀ (j : Nat) (x : Int), p[j]? = some x → Reaches f.nexts x
  | 0, x, hx => by rw [h.zero] at hx; cases hx; exact .zero
  | j + 1, x, hx => by
    have hjl := (List.getElem?_eq_some_iff.1 hx).1
    obtain ⟨w, hw⟩ := get_of_lt (l := p) (k := j) (by omega)
    have hwr := (h.mem w).1 (List.mem_of_getElem? hw)
    refine .step w x (h.reaches j w hw) ?_
    rw [row_at h.leads hwr, h.nexts hw, hx]
    simp
theorem Chainy.been (h : Chainy f p) {x : Int} (hx : x ∈ p) : isBeen f.reach x := by
  obtain ⟨j, hj⟩ := List.getElem?_of_mem hx
  exact (reach_is h.leads h.ne x).2 (h.reaches j x hj)
/-- who leads to y stands just ahead of it -/
theorem Chainy.pred (h : Chainy f p) {j : Nat} {x y : Int} (hx : p[j]? = some x) (hy : p[j + 1]? = some y) {i : Nat} (hi : i < f.blocks.length) (hm : y ∈ rowN f.nexts i) : (i : Int) = x ∧ (rowN f.nexts i).count y = 1 := by
  rw [rowN_block h.leads hi] at hm ⊢
  obtain ⟨k, hk⟩ := List.getElem?_of_mem ((h.mem i).2 (by omega))
  rw [h.nexts hk] at hm ⊢
  cases e : p[k + 1]? with
  | none => rw [e] at hm; simp at hm
  | some z =>
    rw [e] at hm
    simp at hm
    subst hm
    have := h.get_inj hy e
    have hkj : k = j := by omega
    subst hkj
    rw [hx] at hk; cases hk
    simp
theorem Chainy.inN (h : Chainy f p) {j : Nat} {x y : Int} (hx : p[j]? = some x) (hy : p[j + 1]? = some y) : f.inN y = 1 := by
  have hxr := (h.mem x).1 (List.mem_of_getElem? hx)
  have hnl := nexts_length f
  have hlt : x.toNat < f.nexts.length := by omega
  have hge : 1 ≤ f.inN y := by
    have h1 := cnt_le (next := f.nexts) (reach := f.reach) (k := y) hlt (h.been (List.mem_of_getElem? hx)).2
    have h2 : 0 < (rowN f.nexts x.toNat).count y := by
      refine List.count_pos_iff.2 ?_
      rw [rowN_block h.leads (by omega), show ((x.toNat : Nat) : Int) = x by omega, h.nexts hx, hy]
      simp
    unfold BFunc.inN
    omega
  have hle : ¬ 2 ≤ f.inN y := fun h2 => by
    rcases cnt_two h2 with ⟨i, k, a, b, c, d, e, g⟩ | ⟨i, a, b, c⟩
    · have h3 := (h.pred hx hy (i := i) (by omega) e).1
      have h4 := (h.pred hx hy (i := k) (by omega) g).1
      omega
    · have hm : y ∈ rowN f.nexts i := List.count_pos_iff.1 (by omega)
      have := (h.pred hx hy (i := i) (by omega) hm).2
      omega
  omega
theorem Chainy.tk (h : Chainy f p) {j : Nat} {x y : Int} (hx : p[j]? = some x) (hy : p[j + 1]? = some y) : iget f.tk x = y := by
  have hxr := (h.mem x).1 (List.mem_of_getElem? hx)
  have hyr := (h.mem y).1 (List.mem_of_getElem? hy)
  obtain ⟨h1, h2⟩ := h.next j x y hx hy
  have hb := (h.been (List.mem_of_getElem? hx)).2
  have hN := h.inN hx hy
  have hw := ways_inN h.leads (k := y) hyr.1
  have hy0 : y ≠ 0 := fun e => by rw [e] at hy; have := h.get_inj hy h.zero; omega
  have hyx : y ≠ x := fun e => by rw [e] at hy; have := h.get_inj hy hx; omega
  have c1 : (y != 0) = true := by rw [bne_iff_ne]; exact hy0
  have c2 : (y != ((x.toNat : Nat) : Int)) = true := by rw [bne_iff_ne]; omega
  rw [tk_at h.leads hxr, takeOf, hb, h1, h2, hw, hN, c1, c2]; rfl
theorem Chainy.tk_last (h : Chainy f p) {j : Nat} {x : Int} (hx : p[j]? = some x) (hy : p[j + 1]? = none) : iget f.tk x = -1 := by
  have hxr := (h.mem x).1 (List.mem_of_getElem? hx)
  rw [tk_at h.leads hxr, takeOf, h.last j x hx hy]
  simp
theorem Chainy.chain (h : Chainy f p) : ∀ (g j : Nat) (x : Int), p[j]? = some x → p.length ≤ j + 1 + g → Sv.chain f.tk g x = p.drop (j + 1)
  | 0, j, x, hx, hl => by rw [List.drop_eq_nil_of_le (by omega)]; rfl
  | g + 1, j, x, hx, hl => by
    unfold Sv.chain
    cases e : p[j + 1]? with
    | none =>
      rw [h.tk_last hx e]
      have : p.length ≤ j + 1 := List.getElem?_eq_none_iff.1 e
      rw [List.drop_eq_nil_of_le this]
      rfl
    | some y =>
      have hyr := (h.mem y).1 (List.mem_of_getElem? e)
      have hne : (iget f.tk x == -1) = false := by rw [h.tk hx e, beq_eq_false_iff_ne]; omega
      rw [hne, cond_false, h.tk hx e, h.chain g (j + 1) y e (by omega)]
      obtain ⟨a, b⟩ := List.getElem?_eq_some_iff.1 e
      rw [List.drop_eq_getElem_cons (i := j + 1) a, b]
theorem Chainy.path (h : Chainy f p) (hl : p.length ≤ f.blocks.length + 1) : pathOf f.tk 0 = p := by
  have htl : f.tk.length = f.blocks.length := takes_length f f.reach
  rw [pathOf, h.chain f.tk.length 0 0 h.zero (by omega)]
  obtain ⟨a, b⟩ := List.getElem?_eq_some_iff.1 h.zero
  have := List.drop_eq_getElem_cons (i := 0) a
  rw [List.drop_zero, b] at this
  exact this.symm
theorem Chainy.head (h : Chainy f p) {k : Nat} (hk : 0 < k) (hkl : k < f.blocks.length) : f.headOf k = false := by
  cases e : f.headOf k with
  | false => rfl
  | true =>
    obtain ⟨j, hj⟩ := List.getElem?_of_mem ((h.mem k).2 (by omega))
    cases j with
    | zero =>
      rw [h.zero] at hj
      have := Option.some.inj hj
      omega
    | succ j =>
      have hjl := (List.getElem?_eq_some_iff.1 hj).1
      obtain ⟨w, hw⟩ := get_of_lt (l := p) (k := j) (by omega)
      have hwr := (h.mem w).1 (List.mem_of_getElem? hw)
      exact absurd (h.tk hw hj) ((head_free h.leads e).2 w hwr)
theorem Chainy.paths (h : Chainy f p) (hl : p.length ≤ f.blocks.length + 1) : f.tpaths = [p] := by
  have hpos : 0 < f.blocks.length := List.length_pos_iff.2 h.ne
  have key : ∀ m, 0 < m → m ≤ f.blocks.length → f.pathsTo m = [p] := fun m => by
    induction m with
    | zero => intro h0; omega
    | succ m ih =>
      intro _ hm
      by_cases h0 : m = 0
      · subst h0
        rw [pathsTo_yes (head_zero h.leads h.ne)]
        show [] ++ [pathOf f.tk ((0 : Nat) : Int)] = [p]
        rw [show ((0 : Nat) : Int) = 0 from rfl, h.path hl]
        rfl
      · rw [pathsTo_no (h.head (k := m) (by omega) (by omega)), ih (by omega) (by omega)]
  exact key _ hpos (Nat.le_refl _)
end

/-! ### the order, by keys -/
/-- the places of one key -/
def selK (keys : List Int) (k : Nat) : List Int := ((List.range keys.length).filter fun (i : Nat) => iget keys i == (k : Int)).map fun (i : Nat) => (i : Int) + 1
def orderTo (keys : List Int) : Nat → List Int
  | 0 => []
  | m + 1 => orderTo keys m ++ selK keys m
theorem mem_selK {keys : List Int} {k : Nat} {x : Int} : x ∈ selK keys k ↔ ∃ i : Nat, i < keys.length ∧ iget keys i = (k : Int) ∧ x = (i : Int) + 1 := by
  unfold selK
  simp only [List.mem_map, List.mem_filter, List.mem_range, beq_iff_eq]
  constructor
  · rintro ⟨i, ⟨h1, h2⟩, rfl⟩; exact ⟨i, h1, h2, rfl⟩
  · rintro ⟨i, h1, h2, rfl⟩; exact ⟨i, ⟨h1, h2⟩, rfl⟩
theorem mem_orderTo {keys : List Int} : ∀ {m : Nat} {x : Int}, x ∈ orderTo keys m ↔ ∃ i k : Nat, i < keys.length ∧ k < m ∧ iget keys i = (k : Int) ∧ x = (i : Int) + 1
  | 0, x => by
    constructor
    · intro h; cases h
    · rintro ⟨i, k, _, h, _⟩; omega
  | m + 1, x => by
    unfold orderTo
    rw [List.mem_append, mem_orderTo, mem_selK]
    constructor
    · rintro (⟨i, k, h1, h2, h3⟩ | ⟨i, h1, h2⟩)
      · exact ⟨i, k, h1, by omega, h3⟩
      · exact ⟨i, m, h1, by omega, h2⟩
    · rintro ⟨i, k, h1, h2, h3, h4⟩
      by_cases hk : k = m
      · subst hk; exact .inr ⟨i, h1, h3, h4⟩
      · exact .inl ⟨i, k, h1, by omega, h3, h4⟩
theorem selK_nodup (keys : List Int) (k : Nat) : (selK keys k).Nodup := by
  unfold selK
  have h1 : ((List.range keys.length).filter fun (i : Nat) => iget keys i == (k : Int)).Nodup := List.nodup_range.filter _
  refine List.Pairwise.map _ (fun a b hab => ?_) h1
  intro h
  exact hab (by omega)
theorem orderTo_nodup (keys : List Int) : ∀ m, (orderTo keys m).Nodup
  | 0 => List.nodup_nil
  | m + 1 => by
    unfold orderTo
    refine List.nodup_append.2 ⟨orderTo_nodup keys m, selK_nodup keys m, fun a ha b hb hab => ?_⟩
    subst hab
    obtain ⟨i, k, h1, h2, h3, h4⟩ := mem_orderTo.1 ha
    obtain ⟨i', g1, g2, g3⟩ := mem_selK.1 hb
    have : i = i' := by omega
    subst this
    rw [h3] at g2
    omega
theorem selK_length (keys : List Int) (k : Nat) : (selK keys k).length = keys.countP fun x => x == (k : Int) := by
  unfold selK
  rw [List.length_map]
  have key : ∀ n, n ≤ keys.length → ((List.range n).filter fun (i : Nat) => iget keys i == (k : Int)).length = (keys.take n).countP fun x => x == (k : Int) := fun n => by
    induction n with
    | zero => intro _; rfl
    | succ n ih =>
      intro hn
      obtain ⟨x, hx⟩ := get_of_lt (l := keys) (k := n) (by omega)
      rw [List.range_succ, List.filter_append, List.length_append, ih (by omega), take_succ_eq hx, List.countP_append]
      congr 1
      have : iget keys (n : Int) = x := by simp [iget, hx]
      simp only [List.filter_cons, List.filter_nil, List.countP_cons, List.countP_nil, this]
      split <;> simp
  have := key keys.length (Nat.le_refl _)
  rw [List.take_length] at this
  exact this
theorem orderTo_length (keys : List Int) : ∀ m : Nat, (orderTo keys m).length = keys.countP fun x => decide (0 ≤ x) && decide (x < (m : Int))
  | 0 => by
    have : (fun x : Int => decide (0 ≤ x) && decide (x < ((0 : Nat) : Int))) = fun _ => false := by
      funext x
      by_cases h : 0 ≤ x
      · have : ¬ x < ((0 : Nat) : Int) := by omega
        simp [this]
      · simp [h]
    rw [this]
    simp [orderTo]
  | m + 1 => by
    unfold orderTo
    rw [List.length_append, orderTo_length keys m, selK_length]
    clear orderTo_length
    induction keys with
    | nil => rfl
    | cons x r ih =>
      simp only [List.countP_cons]
      have e : (if (decide (0 ≤ x) && decide (x < ((m + 1 : Nat) : Int))) = true then 1 else 0) = (if (decide (0 ≤ x) && decide (x < (m : Int))) = true then 1 else 0) + (if (x == (m : Int)) = true then 1 else 0) := by
        by_cases h1 : x = (m : Int)
        · subst h1
          have a : ¬ ((m : Int) < (m : Int)) := by omega
          have b : (m : Int) < ((m + 1 : Nat) : Int) := by omega
          have c : (0 : Int) ≤ (m : Int) := by omega
          simp [a, b, c]; try omega
        · have h2 : (x == (m : Int)) = false := by rw [beq_eq_false_iff_ne]; exact h1
          rw [h2]
          by_cases h3 : 0 ≤ x
          · by_cases h4 : x < (m : Int)
            · have : x < ((m + 1 : Nat) : Int) := by omega
              simp [h3, h4, this]; try omega
            · have : ¬ x < ((m + 1 : Nat) : Int) := by omega
              simp [h3, h4, this]; try omega
          · simp [h3]
      omega
def bytesIn (keys : List Int) : Prop := ∀ x ∈ keys, 0 ≤ x ∧ x ≤ 255
theorem order_length {keys : List Int} (h : bytesIn keys) : (orderTo keys 256).length = keys.length := by
  rw [orderTo_length, List.countP_eq_length]
  intro x hx
  have := h x hx
  have h1 : x < ((256 : Nat) : Int) := by omega
  simp [this.1, h1]; try omega
def orderP (keys : List Int) : List Int := 0 :: orderTo keys 256
theorem orderP_mem {keys : List Int} (h : bytesIn keys) (x : Int) : x ∈ orderP keys ↔ 0 ≤ x ∧ x < ((keys.length + 1 : Nat) : Int) := by
  unfold orderP
  rw [List.mem_cons, mem_orderTo]
  constructor
  · rintro (rfl | ⟨i, k, h1, h2, h3, rfl⟩) <;> omega
  · intro hx
    by_cases h0 : x = 0
    · exact .inl h0
    · right
      have hi : x.toNat - 1 < keys.length := by omega
      obtain ⟨y, hy⟩ := get_of_lt hi
      have hyr := h y (List.mem_of_getElem? hy)
      refine ⟨x.toNat - 1, y.toNat, hi, by omega, ?_, by omega⟩
      have : iget keys ((x.toNat - 1 : Nat) : Int) = y := by simp only [iget, Int.toNat_natCast, hy, Option.getD_some]
      rw [this]; omega
theorem orderP_nodup (keys : List Int) : (orderP keys).Nodup := by
  unfold orderP
  refine List.nodup_cons.2 ⟨fun h => ?_, orderTo_nodup keys 256⟩
  obtain ⟨i, k, h1, h2, h3, h4⟩ := mem_orderTo.1 h
  omega
theorem orderP_length {keys : List Int} (h : bytesIn keys) : (orderP keys).length = keys.length + 1 := by
  unfold orderP; rw [List.length_cons, order_length h]

/-! ### the blocks -/
def cTac (x : Int) : Tac := ⟨1, 0, 0, 0, 0, 0, 0, IntKind.u32.wrap x⟩
def cBlock (p : List Int) (i : Nat) : Block :=
  match p[i + 1]? with
  | some y => ⟨[cTac (iget p i)], 1, 0, y, 0⟩
  | none => ⟨[cTac (iget p i)], 3, 0, 0, 0⟩
def zBlock : Block := ⟨[], 0, 0, 0, 0⟩
def cBlocks (p : List Int) : Nat → List Block
  | 0 => List.replicate p.length zBlock
  | i + 1 => (cBlocks p i).set (iget p i).toNat (cBlock p i)
theorem cBlocks_length (p : List Int) : ∀ i, (cBlocks p i).length = p.length
  | 0 => by simp [cBlocks]
  | i + 1 => by simp [cBlocks, cBlocks_length p i]
theorem cBlocks_get {p : List Int} (hnd : p.Nodup) (hin : ∀ x ∈ p, 0 ≤ x ∧ x < p.length) : ∀ (m : Nat), m ≤ p.length → ∀ (j : Nat) (x : Int), j < m → p[j]? = some x → (cBlocks p m)[x.toNat]? = some (cBlock p j)
  | 0, _, j, _, h, _ => absurd h (by omega)
  | m + 1, hm, j, x, hj, hx => by
    unfold cBlocks
    have hxr := hin x (List.mem_of_getElem? hx)
    obtain ⟨w, hw⟩ := get_of_lt (l := p) (k := m) (by omega)
    have hwr := hin w (List.mem_of_getElem? hw)
    have hgw : iget p m = w := by simp [iget, hw]
    rw [hgw]
    by_cases h : j = m
    · subst h
      rw [hx] at hw; cases hw
      rw [List.getElem?_set_self (by rw [cBlocks_length]; omega)]
    · have hne : w ≠ x := fun e => by
        subst e
        obtain ⟨a, b⟩ := List.getElem?_eq_some_iff.1 hx
        obtain ⟨c, d⟩ := List.getElem?_eq_some_iff.1 hw
        exact h ((List.getElem_inj hnd).1 (b.trans d.symm))
      rw [List.getElem?_set_ne (by omega)]
      exact cBlocks_get hnd hin m (by omega) j x (by omega) hx
def cFunc (p : List Int) : BFunc := ⟨1, cBlocks p p.length⟩
theorem cFunc_at {p : List Int} (hnd : p.Nodup) (hin : ∀ x ∈ p, 0 ≤ x ∧ x < p.length) {j : Nat} {x : Int} (hx : p[j]? = some x) : (cFunc p).blockAt x = cBlock p j := by
  unfold BFunc.blockAt cFunc
  rw [cBlocks_get hnd hin p.length (Nat.le_refl _) j x (List.getElem?_eq_some_iff.1 hx).1 hx]
  rfl
theorem cFunc_chainy {keys : List Int} (h : bytesIn keys) : Chainy (cFunc (orderP keys)) (orderP keys) := by
  have hl := orderP_length h
  have hin : ∀ x ∈ orderP keys, 0 ≤ x ∧ x < (orderP keys).length := fun x hx => by
    have := (orderP_mem h x).1 hx
    omega
  have hnd := orderP_nodup keys
  refine ⟨hnd, fun x => ?_, rfl, fun j x y hx hy => ?_, fun j x hx hy => ?_⟩
  · rw [orderP_mem h]; simp [cFunc, cBlocks_length, hl]
  · rw [cFunc_at hnd hin hx]
    simp [cBlock, hy]
  · rw [cFunc_at hnd hin hx]
    simp [cBlock, hy]
def cAll (p : List Int) : List Tac := p.map cTac
theorem cJoined {p : List Int} (hnd : p.Nodup) (hin : ∀ x ∈ p, 0 ≤ x ∧ x < p.length) : (cFunc p).joined p = cAll p := by
  unfold BFunc.joined cAll
  have key : ∀ x ∈ p, ((cFunc p).blockAt x).ins = [cTac x] := fun x hx => by
    obtain ⟨j, hj⟩ := List.getElem?_of_mem hx
    rw [cFunc_at hnd hin hj]
    have : iget p j = x := by simp [iget, hj]
    unfold cBlock
    rw [this]
    split <;> rfl
  clear hin
  generalize cFunc p = f at key
  induction p with
  | nil => rfl
  | cons x r ih =>
    rw [List.flatMap_cons, List.map_cons, key x (by simp), ih (List.nodup_cons.1 hnd).2 (fun y hy => key y (by simp [hy]))]
    rfl
theorem cTidy {keys : List Int} (h : bytesIn keys) : (cFunc (orderP keys)).tpaths = [orderP keys] ∧ (cFunc (orderP keys)).tidy = ⟨1, [⟨cAll (orderP keys), 3, 0, 0, 0⟩]⟩ := by
  have hl := orderP_length h
  have hin : ∀ x ∈ orderP keys, 0 ≤ x ∧ x < (orderP keys).length := fun x hx => by
    have := (orderP_mem h x).1 hx
    omega
  have hnd := orderP_nodup keys
  have hc := cFunc_chainy h
  have hp := hc.paths (by simp only [cFunc, cBlocks_length]; omega)
  refine ⟨hp, ?_⟩
  unfold BFunc.tidy
  rw [hp]
  have hne : orderP keys ≠ [] := by simp [orderP]
  have hlast := last_get hne
  have hb := cFunc_at hnd hin hlast
  have hn : (orderP keys)[(orderP keys).length - 1 + 1]? = none := List.getElem?_eq_none (by omega)
  have hb2 : (cFunc (orderP keys)).blockAt (lastOf (orderP keys)) = ⟨[cTac (iget (orderP keys) (((orderP keys).length - 1 : Nat) : Int))], 3, 0, 0, 0⟩ := by
    rw [hb]; unfold cBlock; rw [hn]
  simp only [List.map_cons, List.map_nil, BFunc.newBlock, hb2, cJoined hnd hin]
  rfl
end Go.Proofs.Ytidfabbnobipkaa.Sv

namespace Go.Proofs.Ytidfabbnobipkaa.Sv
open Go
set_option linter.unusedVariables false
set_option linter.unusedSimpArgs false

section
variable {P : Program} {T : Nat → Option TyI} {o : Oper} {e : AEnv} {h : AHeap}

/-- One operation of which there are several ways to end. -/
def OLocE (P : Program) (o : Oper) (e : AEnv) (h : AHeap) (R : List Nat) (S : List (Nat × AObj) → AV → Prop) : Prop :=
  ∀ (H : Know) (ι : Lay) (a : Act) (w : World) (s : AState) (Q : Exit → Act → World → Prop), Sim H ι s a w →
    (∀ x ∈ o.op.operands, look s.env x = look e x) → (∀ b ∈ R, s.h b = h b) →
    o.wp P a w (fun a' w' => ∃ W r v H' ι', S W r ∧ a' = a.put o.dst v ∧ Rel H' ι' r v ∧ HeapRel H' ι' (hputs s.h W) w' ∧ Step H ι s.h w H' ι' (hputs s.h W) w') Q

theorem AOps.ex {ops : Array Oper} {rest : List Oper} {n : Nat} {K : AState → Prop} (d : Nat) {R : List Nat} {S : List (Nat × AObj) → AV → Prop} (hd : o.dst = some d) (hb : Nat.blt d n = true) (hg : guardIs ops o e = some true) (ho : OLocE P o e h R S)
    (hr : ∀ W r, S W r → AOps P ops rest ⟨n, eput e d r, hputs h W⟩ K) : AOps P ops (o :: rest) ⟨n, e, h⟩ K := by
  intro H ι a w hs
  unfold wpList
  rw [guard_wanted hs hg]
  simp only [if_true]
  refine .inl (Oper.wp_mono (fun a' w' hx => ?_) (ho H ι a w ⟨n, e, h⟩ _ hs (fun _ _ => rfl) (fun _ _ => rfl)))
  obtain ⟨W, r, v, H', ι', hS, rfl, h1, h2, h3⟩ := hx
  have hs' := hs.put (d := o.dst) (r := some r) h2 h3 (fun x ex => by cases ex; exact h1) (lt_of hd hb)
  rw [hd] at hs' ⊢
  have := hr W r hS H' ι' _ w' hs'
  have key : ∀ (l : List Oper) (a1 : Act) (w1 : World), wpList P ops (Post H' ι' (hputs h W) w' (Then K fun _ _ => False)) l a1 w1 → wpList P ops (Post H ι h w (Then K fun _ _ => False)) l a1 w1 := by
    have hpost : ∀ e a2 w2, Post H' ι' (hputs h W) w' (Then K fun _ _ => False) e a2 w2 → Post H ι h w (Then K fun _ _ => False) e a2 w2 := fun e a2 w2 hp => Post.step hs.heap h2 h3 hp
    intro l
    induction l with
    | nil => exact fun a1 w1 hp => hpost _ _ _ hp
    | cons o' l ih =>
      intro a1 w1 hp
      unfold wpList at hp ⊢
      by_cases hw : Region.wanted o' (yielded ops a1.tmps) = true
      · rw [if_pos hw] at hp ⊢
        rcases hp with hp | ⟨hp1, a2, w2, hp2⟩
        · refine .inl ?_
          have hp' := Oper.wp_mono (fun a2 w2 => ih a2 w2) hp
          clear hp
          unfold Oper.wp at hp' ⊢
          generalize (execOp a1.eval o').run P w1 = res at hp' ⊢
          cases res with
          | ok n w3 =>
            cases n <;> simp only [Oper.upon] at hp' ⊢ <;> first
              | exact hp'
              | exact Calls.mono hp' (fun e w4 he => by cases e <;> first | exact he | exact hpost _ _ _ he | (obtain ⟨a3, w5, hp3⟩ := he; exact ⟨a3, w5, hpost _ _ _ hp3⟩))
          | halt x w3 => cases x <;> simp only [Oper.upon] at hp' ⊢ <;> first | exact hpost _ _ _ hp' | exact hp'
        · exact .inr ⟨hp1, a2, w2, hpost _ _ _ hp2⟩
      · rw [if_neg hw] at hp ⊢
        exact ih _ _ hp
  exact key _ _ _ this

end
end Go.Proofs.Ytidfabbnobipkaa.Sv

namespace Go.Proofs.Ytidfabbnobipkaa.Sv
open Go
set_option linter.unusedVariables false
set_option linter.unusedSimpArgs false

structure QG where
  s : BS
  es : List Int
  off : Nat
  g : Nat
  gas : Nat
structure QInv (next : List (List Int)) (q : QG) : Prop where
  inv : BInv next q.s
  qe : q.s.q = q.es.drop q.off
  off : q.off ≤ q.es.length
  mu : bmu q.s < q.gas
  le : q.gas ≤ next.length + 1
  tgt : (brun next q.gas q.s).been = breach next
structure QI where
  j : Nat
  es : List Int
  off : Nat
  g : Nat
structure QIInv (been : List Bool) (tl : List Int) (row : List Int) (i : QI) : Prop where
  off : i.off ≤ i.es.length
  q : i.es.drop i.off = ((row.take i.j).foldl binto ⟨been, tl⟩).q
theorem QInv.first {next : List (List Int)} (hn : next ≠ []) : QInv next ⟨bstart next.length, [0], 0, 0, next.length + 1⟩ := by
  obtain ⟨i1, _, i3⟩ := bstart_inv hn
  exact ⟨i1, rfl, Nat.zero_le _, i3, Nat.le_refl _, rfl⟩
theorem QInv.len {next : List (List Int)} {q : QG} (h : QInv next q) (hq : q.s.q ≠ []) {row : List Int} {i : QI} (hi : QIInv q.s.been q.s.q.tail row i) : i.es.length - i.off ≤ next.length := by
  have h1 : i.es.length - i.off = ((row.take i.j).foldl binto ⟨q.s.been, q.s.q.tail⟩).q.length := by rw [← hi.q, List.length_drop]
  have h2 := bintos_mu (row.take i.j) ⟨q.s.been, q.s.q.tail⟩
  have h3 := h.mu
  have h4 := h.le
  have h5 : bmu ⟨q.s.been, q.s.q.tail⟩ ≤ bmu q.s := by simp [bmu]
  have h6 : ((row.take i.j).foldl binto ⟨q.s.been, q.s.q.tail⟩).q.length ≤ bmu ((row.take i.j).foldl binto ⟨q.s.been, q.s.q.tail⟩) := Nat.le_add_left _ _
  omega
theorem QInv.next {next : List (List Int)} {q : QG} (h : QInv next q) (hq : q.s.q ≠ []) {a : Int} (ha : q.s.q = a :: q.s.q.tail) {row : List Int} (hr : rowAt next a = row) {i : QI} (hi : QIInv q.s.been q.s.q.tail row i) (hj : row.length ≤ i.j) :
    QInv next ⟨bround next q.s, i.es, i.off, i.g, q.gas - 1⟩ ∧ q.gas - 1 < q.gas ∧ (row.take i.j).foldl binto ⟨q.s.been, q.s.q.tail⟩ = bround next q.s := by
  have hb : (row.take i.j).foldl binto ⟨q.s.been, q.s.q.tail⟩ = bround next q.s := by
    rw [List.take_of_length_le hj]
    unfold bround
    rw [ha]
    simp only [List.tail_cons, hr]
  have hm := bround_mu (next := next) hq
  have hmu := h.mu
  have hle := h.le
  refine ⟨⟨bround_ok h.inv, by rw [← hb]; exact hi.q.symm, hi.off, by show bmu (bround next q.s) < q.gas - 1; omega, by show q.gas - 1 ≤ _; omega, ?_⟩, by omega, hb⟩
  rw [← h.tgt]
  show _ = (brun next q.gas q.s).been
  rw [show q.gas = (q.gas - 1) + 1 by omega, brun_step hq, Nat.add_sub_cancel]
theorem QInv.done {next : List (List Int)} {q : QG} (h : QInv next q) (hl : q.es.length - q.off = 0) : q.s.been = breach next := by
  have : q.s.q = [] := by rw [h.qe]; exact List.drop_eq_nil_of_le (by omega)
  rw [← h.tgt, brun_end this]
end Go.Proofs.Ytidfabbnobipkaa.Sv

namespace Go.Proofs.Ytidfabbnobipkaa.Sv
open Go
set_option linter.unusedVariables false
set_option linter.unusedSimpArgs false

end Go.Proofs.Ytidfabbnobipkaa.Sv
