/-
  A CALL THAT LOOKS AT ROWS OF THE CALLER, AND MAY CHANGE THEM: own work, over no program.
  MAPS WHOSE KEYS ARE NUMBERS: own work, over no program.
  MORE OPERATIONS: truth values compared; a number turned: own work, over no program.
  FROM WHAT ARGUMENTS READ AS TO ABSTRACT VALUES; AND FROM A CONTRACT OF PLAIN DATA TO A ROW: own work, over no program.
  THE TYPES OF THE PROGRAM, WRITTEN OUT: printed by a program of our own.
  THE PROGRAM'S DATA, AS LEAN'S, AND AS ABSTRACT VALUES: own work.
  WHAT THE DOCUMENT'S CHAPTERS SAY OF PROGRAMS IN BLOCKS, IN PLAIN LEAN: own work, over no program.
  WORDS' OPERATIONS, IN PLAIN LEAN: own work, over no program.
  FOLDING, IN PLAIN LEAN; maps of words: own work, over no program.
  PROGRAMS IN BLOCKS AS ARGUMENTS: own work, over no program.
  WHAT THE ROWS OF THIS SEAT HAVE IN COMMON: facts of the program, and how its types read: own work.
  How strings read: own work.
  WHAT ARGUMENTS READ AS, where types hold themselves: own work, over no program.
  WORDS BIT BY BIT, AS THE DOCUMENT'S ANSWER HAS THEM, IN PLAIN LEAN: own work, over no program.
  SMALL RULES FOR THE DOCUMENT'S WORDS: own work, over no program.
  THE LAWS OF FOLDING, IN PLAIN LEAN: own work, over no program.
  THE LAW FoldKnown, IN PLAIN LEAN: own work, over no program.
  THE DOCUMENT'S WORDS ARE THE PROGRAM'S, IN PLAIN LEAN: own work, over no program.
  FOLDING INSTRUCTION BY INSTRUCTION, WITH TWO ROWS IN PLACE OF A MAP, IN PLAIN LEAN: own work, over no program.
  BYTES TO A STRING: own work, over no program.
  THE DOCUMENT'S MACHINE OF BLOCKS, IN PLAIN LEAN: own work, over no program.
  THE MACHINE'S LOOPS: what holds at each round, in plain Lean: own work, over no program.
  FUNCTION VALUES; SLICES THAT ARE NOT AT THEIR ROW'S END; CHANGES IN THOUGHT OF WHAT ROWS HOLD: own work, over no program.
  SLICES CUT TO WHAT THEY HOLD, AND WHAT IS PUT BEHIND THEM; weaker values in thought: own work, over no program.
  WHAT FOLLOWS BLOCKS, AND WHAT IS REACHED, IN PLAIN LEAN: own work, over no program.
  WHAT MATTERS AHEAD OF A BLOCK, AND LEAVING OUT WHAT IS DEAD, ONE BY ONE: own work.
  PROGRAMS WITHOUT NAMES, AND HOW THEIR BLOCKS ARE BUILT, in plain Lean: own work.
  WHAT PROGRAMS WITHOUT NAMES MEAN, in plain Lean: own work.
  RUNS THAT HAVE DONE FEWER STEPS END ALIKE, IN PLAIN LEAN: own work, over no program.
  PLACES IN BLOCKS, AND HOW A RUN GOES ON FROM THEM: own work.
  THE CODE OF EXPRESSIONS, and that it finds their values: own work.
  EXPRESSIONS FIND THEIR VALUES: own work.
  EXPRESSIONS FIND THEIR VALUES, KIND BY KIND: own work.
  ALL EXPRESSIONS FIND THEIR VALUES: own work.
  STATEMENTS DO WHAT THEY MEAN: own work.
  ALL STATEMENTS DO WHAT THEY MEAN: own work.
-/
import Derived.Test.YtmfihmkopmgelaaPBuildEnds1
import Derived.MapKept
import Derived.ProofKit
import Derived.OpenShut
import Derived.SizedLaws
import Derived.Test.YtmfihmkopmgelaaProg
import Derived.KernelRfl
import Derived.Test.YtmfihmkopmgelaaRows
import Derived.Laws.BytesString
namespace Go.Proofs.Ytmfihmkopmgelaa.Sv
open Go
def mem (L : List Nat) : Nat → Bool := fun b => L.any (fun c => Nat.beq b c)
theorem mem_iff {L : List Nat} {b : Nat} : mem L b = true ↔ b ∈ L := by
  unfold mem
  rw [List.any_eq_true]
  constructor
  · rintro ⟨c, h1, h2⟩
    rw [Nat.eq_of_beq_eq_true h2]; exact h1
  · exact fun h => ⟨b, h, Nat.beq_refl b⟩
def hres (h : AHeap) (L : List Nat) : AHeap := fun b => bif mem L b then h b else some .free
theorem hres_nil (h : AHeap) : hres h [] = hNew := rfl
theorem hres_cons {h h' : AHeap} {L : List Nat} {b : Nat} {o : AObj} (ho : h b = some o) (hr : hres h L = h') : hres h (b :: L) = hput h' b o := by
  subst hr
  funext x
  by_cases hx : x = b
  · subst hx
    rw [hput_same]
    have : mem (x :: L) x = true := mem_iff.2 (by simp)
    simp only [hres, this, cond_true]; exact ho
  · rw [hput_ne _ _ hx]
    have : mem (b :: L) x = mem L x := by
      simp only [mem, List.any_cons, beq_false_of_ne hx, Bool.false_or]
    simp only [hres, this]
def AllL : List Nat → (Nat → Prop) → Prop
  | [], _ => True
  | b :: L, p => p b ∧ AllL L p
theorem AllL.get {p : Nat → Prop} : ∀ {L : List Nat}, AllL L p → ∀ b ∈ L, p b
  | b :: L, h, c, hc => by
    rcases List.mem_cons.1 hc with rfl | hc
    · exact h.1
    · exact AllL.get h.2 c hc
def lmix (ι ι' : Lay) (L : List Nat) : Lay := fun b => bif mem L b then ι' b else ι b
theorem hputs_not {W : List (Nat × AObj)} {b : Nat} : ∀ {h : AHeap}, (∀ p ∈ W, p.1 ≠ b) → hputs h W b = h b := by
  induction W with
  | nil => exact fun _ => rfl
  | cons p W ih =>
    intro h hp
    show hputs (hput h p.1 p.2) W b = h b
    rw [ih (fun q hq => hp q (List.mem_cons_of_mem _ hq)), hput_ne _ _ (fun e => hp p List.mem_cons_self e.symm)]
theorem hputs_agree {W : List (Nat × AObj)} {b : Nat} : ∀ {h h' : AHeap}, h b = h' b → hputs h W b = hputs h' W b := by
  induction W with
  | nil => exact fun h => h
  | cons p W ih =>
    intro h h' hh
    refine ih ?_
    by_cases hb : b = p.1
    · subst hb; rw [hput_same, hput_same]
    · rw [hput_ne _ _ hb, hput_ne _ _ hb, hh]
theorem call_mix {H : Know} {ι : Lay} {h : AHeap} {w : World} {L : List Nat} {W : List (Nat × AObj)} {H' : Know} {ι' : Lay} {h' : AHeap} {w' : World} (hr : HeapRel H ι h w)
    (hL : ∀ b ∈ L, ∃ o, h b = some o ∧ o.avoid (mem L) = true) (hW : ∀ p ∈ W, p.1 ∈ L)
    (hk : ∀ b ∈ L, ∃ o, h' b = some o ∧ hputs h W b = some o ∧ o.avoid (mem L) = true)
    (hr' : HeapRel H' ι' h' w') (hst : Step H (lcut ι (mem L)) (hres h L) w H' ι' h' w') :
    HeapRel H' (lmix ι ι' L) (hputs h W) w' ∧ Step H ι h w H' (lmix ι ι' L) (hputs h W) w' := by
  have mT : ∀ b, b ∈ L → lmix ι ι' L b = ι' b := fun b hb => by simp only [lmix, mem_iff.2 hb, cond_true]
  have mF : ∀ b, b ∉ L → lmix ι ι' L b = ι b := fun b hb => by
    have : mem L b = false := by cases e : mem L b with | false => rfl | true => exact absurd (mem_iff.1 e) hb
    simp only [lmix, this, cond_false]
  have cT : ∀ b, b ∈ L → lcut ι (mem L) b = ι b := fun b hb => lcut_lt (mem_iff.2 hb)
  have rT : ∀ b, b ∈ L → hres h L b = h b := fun b hb => by simp only [hres, mem_iff.2 hb, cond_true]
  have rF : ∀ b, b ∉ L → hres h L b = some .free := fun b hb => by
    have : mem L b = false := by cases e : mem L b with | false => rfl | true => exact absurd (mem_iff.1 e) hb
    simp only [hres, this, cond_false]
  have wF : ∀ b, b ∉ L → hputs h W b = h b := fun b hb => hputs_not fun p hp e => hb (e ▸ hW p hp)
  have own : ∀ rb, Owned (hres h L) (lcut ι (mem L)) rb → Owned h ι rb := by
    rintro rb ⟨b, o, r, h1, h2, h3, h4, h5⟩
    by_cases hb : b ∈ L
    · exact ⟨b, o, r, by rw [← rT b hb]; exact h1, h2, lcut_some h3, h4, h5⟩
    · rw [rF b hb] at h1; cases h1; cases h2
  -- rows that the call didn't see are none of its
  have apart : ∀ b o r, b ∉ L → h b = some o → o.alive = true → ι b = some r → r.solid → ¬ Owned (hres h L) (lcut ι (mem L)) r.rb := by
    rintro b o r hb h1 h2 h3 h4 ⟨b', o', r', g1, g2, g3, g4, g5⟩
    by_cases hb' : b' ∈ L
    · exact hr.inj b b' o o' r r' h1 h2 (by rw [← rT b' hb']; exact g1) g2 h3 (lcut_some g3) h4 g4 (fun e => hb (e ▸ hb')) g5.symm
    · rw [rF b' hb'] at g1; cases g1; cases g2
  have lle : LLe ι (lmix ι ι' L) := fun b r e => by
    by_cases hb : b ∈ L
    · rw [mT b hb]; exact hst.lle b r (by rw [cT b hb]; exact e)
    · rw [mF b hb]; exact ⟨r, e, .inl rfl⟩
  have lle' : LLe (lcut ι' (mem L)) (lmix ι ι' L) := fun b r e => by
    by_cases hb : b ∈ L
    · rw [mT b hb]; exact ⟨r, lcut_some e, .inl rfl⟩
    · have : mem L b = false := by cases e : mem L b with | false => rfl | true => exact absurd (mem_iff.1 e) hb
      simp only [lcut, this, cond_false] at e; cases e
  have blk : ∀ b o r, b ∉ L → h b = some o → o.alive = true → ι b = some r → r.solid → w'.heap[r.rb]? = w.heap[r.rb]? := fun b o r hb h1 h2 h3 h4 =>
    hst.keep r.rb (hr.lt ⟨b, o, r, h1, h2, h3, h4, rfl⟩) (apart b o r hb h1 h2 h3 h4)
  have noK : ∀ b o r, b ∉ L → h b = some o → o.alive = true → ι b = some r → r.solid → H r.rb = none → H' r.rb = none := fun b o r hb h1 h2 h3 h4 h5 => by
    cases e : H' r.rb with
    | none => rfl
    | some c =>
      rcases hst.knew r.rb (by rw [e]; simp) with g | g | g
      · exact absurd h5 g
      · have := hr.lt ⟨b, o, r, h1, h2, h3, h4, rfl⟩; omega
      · exact absurd g (apart b o r hb h1 h2 h3 h4)
  -- a row of the call's, afterwards: not one of those that it didn't see
  have apart' : ∀ b b' o r r', b ∉ L → b' ∈ L → h b = some o → o.alive = true → ι b = some r → r.solid → ι' b' = some r' → r'.solid → r.rb ≠ r'.rb := fun b b' o r r' hb hb' h1 h2 h3 h4 g1 g2 e => by
    have alive' : ∀ r0, ι b' = some r0 → r0.solid → r0.rb = r'.rb → False := fun r0 e0 es e1 => by
      obtain ⟨o0, k1, _⟩ := hL b' hb'
      have ka : o0.alive = true := by
        cases o0 with
        | free => rw [hr.free b' k1] at e0; cases e0
        | _ => rfl
      exact hr.inj b b' o o0 r r0 h1 h2 k1 ka h3 e0 h4 es (fun e => hb (e ▸ hb')) (e.trans e1.symm)
    rcases hst.newrb b' r' g1 g2 with k | k | ⟨r0, k1, k2, k3⟩
    · exact alive' r' (lcut_some k) g2 rfl
    · have := hr.lt ⟨b, o, r, h1, h2, h3, h4, rfl⟩; omega
    · exact alive' r0 (lcut_some k1) k2 k3
  refine ⟨⟨hr'.know, fun b hb => ?_, fun b o h1 h2 => ?_, fun b b' o o' r r' h1 h2 h3 h4 h5 h6 s1 s2 hne => ?_, hr'.glob⟩, ⟨hst.size, hst.os, hst.out, fun rb hlt hno => hst.keep rb hlt (fun h => hno (own rb h)), hst.kle, fun b hb => ?_, lle, fun b e => ?_, fun b r' e es => ?_, fun b e => ?_⟩⟩
  · by_cases hbL : b ∈ L
    · obtain ⟨o, k1, k2, _⟩ := hk b hbL
      rw [k2] at hb; cases hb
      rw [mT b hbL]; exact hr'.free b k1
    · rw [wF b hbL] at hb; rw [mF b hbL]; exact hr.free b hb
  · by_cases hbL : b ∈ L
    · obtain ⟨o', k1, k2, k3⟩ := hk b hbL
      rw [k2] at h1; cases h1
      obtain ⟨r, r1, r2, r3⟩ := hr'.obj b o k1 h2
      exact ⟨r, by rw [mT b hbL]; exact r1, (objOk_cut r2 k3).mono (KLe.refl _) lle' (fun _ => rfl), r3⟩
    · rw [wF b hbL] at h1
      obtain ⟨r, r1, r2, r3⟩ := hr.obj b o h1 h2
      exact ⟨r, by rw [mF b hbL]; exact r1, r2.mono hst.kle lle (fun hs => blk b o r hbL h1 h2 r1 hs), fun hs => noK b o r hbL h1 h2 r1 hs (r3 hs)⟩
  · by_cases hb : b ∈ L <;> by_cases hb' : b' ∈ L
    · obtain ⟨q, k1, k2, _⟩ := hk b hb
      obtain ⟨q', k1', k2', _⟩ := hk b' hb'
      rw [k2] at h1; cases h1
      rw [k2'] at h3; cases h3
      rw [mT b hb] at h5; rw [mT b' hb'] at h6
      exact hr'.inj b b' _ _ r r' k1 h2 k1' h4 h5 h6 s1 s2 hne
    · rw [wF b' hb'] at h3; rw [mF b' hb'] at h6; rw [mT b hb] at h5
      exact fun e => apart' b' b o' r' r hb' hb h3 h4 h6 s2 h5 s1 e.symm
    · rw [wF b hb] at h1; rw [mF b hb] at h5; rw [mT b' hb'] at h6
      exact apart' b b' o r r' hb hb' h1 h2 h5 s1 h6 s2
    · rw [wF b hb] at h1; rw [mF b hb] at h5; rw [wF b' hb'] at h3; rw [mF b' hb'] at h6
      exact hr.inj b b' o o' r r' h1 h2 h3 h4 h5 h6 s1 s2 hne
  · rcases hst.knew b hb with g | g | g
    · exact .inl g
    · exact .inr (.inl g)
    · exact .inr (.inr (own b g))
  · by_cases hb : b ∈ L
    · obtain ⟨o, k1, _⟩ := hL b hb; rw [k1] at e; cases e
    · exact mF b hb
  · by_cases hb : b ∈ L
    · rw [mT b hb] at e
      rcases hst.newrb b r' e es with k | k | ⟨r0, k1, k2, k3⟩
      · exact .inl (lcut_some k)
      · exact .inr (.inl k)
      · exact .inr (.inr ⟨r0, lcut_some k1, k2, k3⟩)
    · rw [mF b hb] at e; exact .inl e
  · by_cases hb : b ∈ L
    · obtain ⟨o, k1, _⟩ := hL b hb; rw [k1] at e; cases e
    · rw [wF b hb]; exact e
section
variable {P : Program} {o : Oper} {e : AEnv} {h : AHeap}
theorem o_call {f : FuncId} {fn : Func} {args : Array Operand} {tys : Array TypeId} {xs : List AV} {r : AV} {hc hw : AHeap} (L : List Nat) (W : List (Nat × AObj)) (ho : o.op = .call { callee := .value (.func f), args := args, argTypes := tys }) (hf : P.funcs[f]? = some fn) (hn : (fn.name == "runtime.NumGoroutine") = false) (hb : fn.body.isSome = true)
    (hx : lookAll e args.toList = some xs) (hxa : xs.all (AV.avoid (mem L)) = true) (hL : AllL L fun b => ∃ q, h b = some q ∧ q.avoid (mem L) = true) (hW : W.all (fun p => mem L p.1) = true) (hres' : hres h L = hc)
    (hk : AllL L fun b => ∃ q, hw b = some q ∧ hputs h W b = some q ∧ q.avoid (mem L) = true) (hra : r.avoid (mem L) = true)
    (hcall : ACall P f xs hc (fun r' h' => r' = r ∧ HSub hw h')) : OLoc P o e h L W (some r) := by
  intro H ι a w s Q hs g1 g2
  have hx' : lookAll s.env args.toList = some xs := by
    rw [lookAll_agree (e := e) (fun x hx => g1 x (by rw [ho]; simp [Op.operands, Call.operands]; exact .inr (by simpa using hx)))]; exact hx
  have hraa := relAll_map hs hx'
  have hra' : RelAll H (lcut ι (mem L)) xs (args.map a.eval) := ⟨hraa.1, fun j x v h1 h2 => avoid_rel (hraa.2 j x v h1 h2) (all_get hxa h1)⟩
  have hLs : ∀ b ∈ L, ∃ q, s.h b = some q ∧ q.avoid (mem L) = true := fun b hb => by rw [g2 b hb]; exact hL.get b hb
  have hres2 : hres s.h L = hc := by
    rw [← hres']
    funext b
    unfold hres
    cases e : mem L b with
    | true => simp only [cond_true]; exact g2 b (mem_iff.1 e)
    | false => rfl
  have hrc : HeapRel H (lcut ι (mem L)) (hres s.h L) w := by
    have key : ∀ b o, hres s.h L b = some o → o.alive = true → b ∈ L ∧ s.h b = some o := fun b o h1 h2 => by
      unfold hres at h1
      cases e : mem L b with
      | true => rw [e] at h1; exact ⟨mem_iff.1 e, h1⟩
      | false => rw [e] at h1; cases h1; cases h2
    refine ⟨hs.heap.know, fun b hb => ?_, fun b o h1 h2 => ?_, fun b b' o o' r r' h1 h2 h3 h4 h5 h6 => ?_, hs.heap.glob⟩
    · unfold hres at hb
      unfold lcut
      cases e : mem L b with
      | true => rw [e] at hb; exact hs.heap.free b hb
      | false => rfl
    · obtain ⟨k1, k2⟩ := key b o h1 h2
      obtain ⟨r, r1, r2, r3⟩ := hs.heap.obj b o k2 h2
      obtain ⟨q, q1, q2⟩ := hLs b k1
      rw [k2] at q1; cases q1
      exact ⟨r, by rw [lcut_lt (mem_iff.2 k1)]; exact r1, objOk_cut r2 q2, r3⟩
    · exact hs.heap.inj b b' o o' r r' (key b o h1 h2).2 h2 (key b' o' h3 h4).2 h4 (lcut_some h5) (lcut_some h6)
  have hcalls := hcall H (lcut ι (mem L)) w _ hra' (hres2 ▸ hrc)
  have hexec : (execOp a.eval o).run P w = .ok (.enter f (args.map a.eval)) w := by
    simp [execOp, ho, resolve, Act.eval, Deferred.ofValue, invoke, run_callFunc hf hn hb]
  unfold Oper.wp
  rw [hexec]
  refine hcalls.mono fun en w' hh => ?_
  obtain ⟨v, r', h', H', ι', rfl, ⟨rfl, hsub⟩, k1, k2, k3⟩ := hh
  have hk' : ∀ b ∈ L, ∃ q, h' b = some q ∧ hputs s.h W b = some q ∧ q.avoid (mem L) = true := fun b hb => by
    obtain ⟨q, q1, q2, q3⟩ := hk.get b hb
    exact ⟨q, hsub b q q1, by rw [hputs_agree (g2 b hb)]; exact q2, q3⟩
  obtain ⟨u1, u2⟩ := call_mix hs.heap hLs (fun p hp => mem_iff.1 (List.all_eq_true.1 hW p hp)) hk' k2 (hres2.symm ▸ k3)
  refine ⟨v, H', _, rfl, fun x ex => ?_, u1, u2⟩
  cases ex
  refine (avoid_rel k1 hra).mono (KLe.refl _) fun b r e => ?_
  by_cases hb : b ∈ L
  · exact ⟨r, by simp only [lmix, mem_iff.2 hb, cond_true]; exact lcut_some e, .inl rfl⟩
  · have : mem L b = false := by cases e : mem L b with | false => rfl | true => exact absurd (mem_iff.1 e) hb
    simp only [lcut, this, cond_false] at e; cases e
end
abbrev NMap := List (Int × AV)
def kvs (K : IntKind) (m : NMap) : List (AV × AV) := m.map fun p => (.int K p.1, p.2)
inductive EntRel (H : Know) (K : IntKind) : NMap → List MapEntry → Prop
  | nil : EntRel H K [] []
  | cons (z : Int) (v : AV) (m : NMap) (e : MapEntry) (es : List MapEntry) (hk : e.key = .int K z) (hv : Rel H noLay v e.val) (h : EntRel H K m es) : EntRel H K ((z, v) :: m) (e :: es)
theorem EntRel.out {H : Know} {K : IntKind} {m : NMap} {es : List MapEntry} (h : EntRel H K m es) : (kvs K m).length = es.length ∧ ∀ (j : Nat) (k v : AV), (kvs K m)[j]? = some (k, v) → ∃ e, es[j]? = some e ∧ Rel H noLay k e.key ∧ Rel H noLay v e.val := by
  induction h with
  | nil => exact ⟨rfl, fun j k v h => by simp [kvs] at h⟩
  | cons z v m e es hk hv h ih =>
    refine ⟨by simpa [kvs] using ih.1, fun j k u hj => ?_⟩
    cases j with
    | zero =>
      simp [kvs] at hj
      obtain ⟨rfl, rfl⟩ := hj
      exact ⟨e, rfl, by rw [hk]; exact .int _ _ _, hv⟩
    | succ j =>
      obtain ⟨e', k1, k2⟩ := ih.2 j k u (by simpa [kvs] using hj)
      exact ⟨e', by simpa using k1, k2⟩
section
variable {P : Program} {T : Nat → Option TyI} {o : Oper} {e : AEnv} {h : AHeap}
end
section
variable {P : Program} {T : Nat → Option TyI} {o : Oper} {e : AEnv} {h : AHeap}
theorem q_boolEq (hT : TOk P T) {t t' : TypeId} {x y : Operand} {a b : Bool} {i : TyI} (neg : Bool) (ho : o.op = .binOp (bif neg then .neq else .eql) t x y t') (hx : look e x = some (.bool a)) (hy : look e y = some (.bool b)) (hi : T t = some i) (hk : i.k = .bool) : QLoc P o e h [] (.bool (bif neg then a != b else a == b)) := by
  intro H ι act w s hs g1 g2
  have hx' : look s.env x = some (.bool a) := by rw [g1 x (by rw [ho]; simp [Op.operands]), hx]
  have hy' : look s.env y = some (.bool b) := by rw [g1 y (by rw [ho]; simp [Op.operands]), hy]
  have hvx : act.eval x = .bool a := (look_rel hs hx').bool_inv
  have hvy : act.eval y = .bool b := (look_rel hs hy').bool_inv
  obtain ⟨info, d, e1, e2, e3, e4, e5, e6⟩ := tyOf_spec (hT _ _ hi)
  have hd := tk_bool (P := P) (d := d) (e3 ▸ hk)
  subst hd
  have he : (Op.equalIn 10000 t (.bool a) (.bool b)).run P w = .ok (a == b) w := by
    rw [Op.equalIn]; simp [run_underlying' e2]
  refine ⟨_, .bool _ _, ?_⟩
  cases neg with
  | false =>
    simp only [cond_false] at ho
    simp only [execOp, ho, hvx, hvy, eqGuard, binOp, Op.equal, Op.maxDepth, Sem.run_bind, Result.andThen_ok, Sem.run_pure, he, cond_false, Bool.not_true, Bool.false_eq_true, if_false]
  | true =>
    simp only [cond_true] at ho
    simp only [execOp, ho, hvx, hvy, eqGuard, binOp, Op.equal, Op.maxDepth, Sem.run_bind, Result.andThen_ok, Sem.run_pure, he, cond_true, Bool.not_true, Bool.false_eq_true, if_false]
    cases a <;> cases b <;> rfl
end
end Go.Proofs.Ytmfihmkopmgelaa.Sv

namespace Go.Proofs.Ytmfihmkopmgelaa.Sv
open Go Go.ChangeShapes Go.WideShapes Go.ChangeAt Go.RowKit
def heapKnow (W : World) : Know := fun b => match W.heap[b]? with
  | some (.cells c _ _) => some c
  | _ => none
theorem heapKnow_ok (W : World) (hg : GlobOk (heapKnow W)) : KnowOk (heapKnow W) W where
  know := fun b c h => by
    unfold heapKnow at h
    split at h
    · rename_i c' T fr e; cases h; exact ⟨T, fr, e⟩
    · cases h
  glob := hg
theorem heapKnow_cell {W : World} {a : Addr} {v : Value} (h : W.cell? a = some v) : ∃ c, heapKnow W a.block = some c ∧ a.spot = none ∧ c[a.off]? = some v := by
  unfold World.cell? at h
  split at h
  · rename_i c T fr e
    split at h
    · cases h
    · rename_i hs
      refine ⟨c, by simp [heapKnow, e], ?_, h⟩
      cases e2 : a.spot with
      | none => rfl
      | some x => simp [e2] at hs
  · cases h
def Reads (W : World) (cs : List Value) (xs : List AV) : Prop := xs.length = cs.length ∧ ∀ (j : Nat) (x : AV) (v : Value), xs[j]? = some x → cs[j]? = some v → Rel (heapKnow W) noLay x v ∧ x.cell1 = true
section
variable {H : Type}
def Dec (enc : TypeId × Value → H) (P : Program) (W : World) (t : TypeId) {α : Type} (f : α → List AV) (Q : α → Prop) : Prop :=
  ∀ (fuel : Nat) (cs : List Value) (x : DataW H × List MemPlace), DataW.trod enc P W 0 (fun _ => true) true fuel t cs = some x → (x.1.weights P t).all (· ≤ reachBytes) = true → ∃ a, Reads W cs (f a) ∧ Q a
variable {enc : TypeId × Value → H} {P : Program} {W : World} {t e : TypeId}
theorem Reads.one {v : Value} {x : AV} (h : Rel (heapKnow W) noLay x v) (h1 : x.cell1 = true) : Reads W [v] [x] := ⟨rfl, fun j y u hy hu => by
  cases j with
  | zero => simp at hy hu; subst hy; subst hu; exact ⟨h, h1⟩
  | succ j => simp at hy⟩
theorem Dec.int {k : IntKind} (ht : P.underlying t = some (.int k)) : Dec enc P W t (fun n : Int => [.int k n]) (fun n => (Lit.int k n).wf = true) := fun fuel cs x h _ => by
  obtain ⟨n, rfl, rfl, hw⟩ := DataW.trod_int ht h
  exact ⟨n, .one (.int _ _ _) rfl, hw⟩
theorem Dec.bool (ht : P.underlying t = some .bool) : Dec enc P W t (fun b : Bool => [.bool b]) (fun _ => True) := fun fuel cs x h _ => by
  obtain ⟨b, rfl, rfl⟩ := DataW.trod_bool ht h
  exact ⟨b, .one (.bool _ _) rfl, trivial⟩
theorem Dec.string (ht : P.underlying t = some .string) : Dec enc P W t (fun s : ByteArray => [.str s]) (fun s => s.size ≤ maxLen ∧ s.size ≤ reachBytes) := fun fuel cs x h hw => by
  obtain ⟨s, rfl, rfl, hs⟩ := DataW.trod_string ht h
  refine ⟨s, .one (.str _ _) rfl, hs, ?_⟩
  simpa [DataW.weights] using hw
theorem exists_list {α : Type} {R : Nat → α → Prop} : ∀ n : Nat, (∀ i, i < n → ∃ a, R i a) → ∃ l : List α, l.length = n ∧ ∀ i a, l[i]? = some a → R i a
  | 0, _ => ⟨[], rfl, fun i a h => by simp at h⟩
  | n + 1, h => by
    obtain ⟨l, h1, h2⟩ := exists_list n (fun i hi => h i (by omega))
    obtain ⟨a, ha⟩ := h n (by omega)
    refine ⟨l ++ [a], by simp [h1], fun i b hb => ?_⟩
    by_cases hi : i < n
    · rw [List.getElem?_append_left (by omega)] at hb; exact h2 i b hb
    · rw [List.getElem?_append_right (by omega)] at hb
      have : i = n := by
        rcases Nat.lt_or_ge (i - l.length) 1 with h | h
        · omega
        · rw [List.getElem?_eq_none (by simpa using h)] at hb; cases hb
      subst this
      simp [h1] at hb
      subst hb; exact ha
theorem weightsAll_get : ∀ {ds : List (DataW H)} {d : DataW H} {i : Nat}, (DataW.weightsAll P e ds).all (· ≤ reachBytes) = true → ds[i]? = some d → (d.weights P e).all (· ≤ reachBytes) = true
  | [], _, _, _, h => by simp at h
  | d :: r, d', 0, hw, h => by
    simp at h; subst h
    simp only [DataW.weightsAll, List.all_append, Bool.and_eq_true] at hw
    exact hw.1
  | d :: r, d', i + 1, hw, h => by
    simp only [DataW.weightsAll, List.all_append, Bool.and_eq_true] at hw
    exact weightsAll_get (ds := r) hw.2 (by simpa using h)
theorem Dec.slice {α : Type} {f : α → List AV} {Q : α → Prop} (ht : P.underlying t = some (.slice e)) (hc : 0 < P.cellsOf e) (he : Dec enc P W e f Q) :
    Dec enc P W t (fun l : List α => [.lst false (l.map f)]) (fun l => l.length * P.bytesOf e ≤ reachBytes ∧ ∀ a ∈ l, Q a) := fun fuel cs x h hw => by
  rcases DataW.trod_slice ht h with ⟨rfl, rfl⟩ | ⟨a, len, cap, elems, rest, n, rfl, rfl, rfl, hb, hl, hm, hlen, hel, hsp, hns⟩
  · exact ⟨[], .one (.lst0 _ _ _ _ (fun h => by cases h) (Nat.zero_le _) (fun _ => rfl) trivial) rfl, by simp, fun a h => by cases h⟩
  simp only [DataW.weights, ht, List.all_cons, List.all_append, Bool.and_eq_true, decide_eq_true_eq, List.length_map] at hw
  obtain ⟨w1, w2, w3⟩ := hw
  have key : ∀ i, i < len → ∃ y, ∃ cs', W.cells? 0 (a.add (i * P.cellsOf e)) (P.cellsOf e) = some cs' ∧ Reads W cs' (f y) ∧ Q y := fun i hi => by
    have h1 := hel i hi
    have hlt : i < elems.length := by omega
    rw [List.getElem?_eq_getElem hlt] at h1
    rw [Option.bind_eq_some_iff] at h1
    obtain ⟨cs', c1, c2⟩ := h1
    obtain ⟨y, y1, y2⟩ := he _ _ _ c2 (weightsAll_get w2 (i := i) (by rw [List.getElem?_map, List.getElem?_eq_getElem hlt]; rfl))
    exact ⟨y, cs', c1, y1, y2⟩
  obtain ⟨l, l1, l2⟩ := exists_list len key
  have hQ : ∀ y ∈ l, Q y := fun y hy => by
    obtain ⟨i, hi⟩ := List.mem_iff_getElem?.1 hy
    obtain ⟨cs', _, _, q⟩ := l2 i y hi
    exact q
  have hbytes : l.length * P.bytesOf e ≤ reachBytes := by
    refine Nat.le_trans (Nat.mul_le_mul_right _ ?_) w1
    omega
  refine ⟨l, .one ?_ rfl, hbytes, hQ⟩
  by_cases h0 : len = 0
  · have : l = [] := List.length_eq_zero_iff.1 (by omega)
    subst this; subst h0
    exact .lst0 _ _ _ _ (fun h => by cases h) hm (fun h => by cases h) trivial
  · obtain ⟨y0, cs0, k1, k2, k3⟩ := key 0 (by omega)
    obtain ⟨_, m1, m2⟩ := World.cells?_some k1
    have hz : cs0[0]? = some cs0[0] := List.getElem?_eq_getElem (by omega)
    have hcell := m2 0 hc
    rw [hz] at hcell
    have ha0 : (a.add (0 * P.cellsOf e)).add 0 = a := by simp [Addr.add]
    rw [ha0] at hcell
    obtain ⟨c, hH, hspot, _⟩ := heapKnow_cell hcell
    obtain ⟨ab, ao, asp⟩ := a
    simp only at hspot hH
    subst hspot
    have hsz : ∀ (i : Nat) (xs : List AV), (l.map f)[i]? = some xs → xs.length = P.cellsOf e ∧ ∀ (j : Nat) (x : AV), xs[j]? = some x → ∃ v, c[ao + i * P.cellsOf e + j]? = some v ∧ Rel (heapKnow W) noLay x v ∧ x.cell1 = true := fun i xs hi => by
      rw [List.getElem?_map, Option.map_eq_some_iff] at hi
      obtain ⟨y, y1, rfl⟩ := hi
      obtain ⟨cs', c1, c2, c3⟩ := l2 i y y1
      obtain ⟨_, n1, n2⟩ := World.cells?_some c1
      refine ⟨by rw [c2.1, n1], fun j x hj => ?_⟩
      have hjlt : j < cs'.length := by rw [← c2.1]; exact (List.getElem?_eq_some_iff.1 hj).1
      have h3 := n2 j (by omega)
      rw [List.getElem?_eq_getElem hjlt, add_mk, add_mk] at h3
      obtain ⟨c', e1, _, e3⟩ := heapKnow_cell h3
      simp only at e1 e3
      rw [hH] at e1; cases e1
      obtain ⟨g1, g2⟩ := c2.2 j x _ hj (List.getElem?_eq_getElem hjlt)
      exact ⟨_, e3, g1, g2⟩
    have := Rel.lst (H := heapKnow W) noLay false (l.map f) ab ao cap (P.cellsOf e) c (fun i j => (c[ao + i * P.cellsOf e + j]?).getD undef) (fun hh => by rw [List.map_eq_nil_iff] at hh; subst hh; simp at l1; omega) hH
      (fun i xs hi => (hsz i xs hi).1) (fun i xs j x hi hj => by obtain ⟨v, v1, _⟩ := (hsz i xs hi).2 j x hj; rw [v1]; rfl)
      (fun i xs j x hi hj => by obtain ⟨v, v1, v2, _⟩ := (hsz i xs hi).2 j x hj; rw [v1]; exact v2) (fun i xs j x hi hj => by obtain ⟨v, v1, v2, v3⟩ := (hsz i xs hi).2 j x hj; exact v3) (fun h => by cases h) (by simp [l1]; exact hl) hm
    rw [List.length_map, l1] at this
    exact this
variable {T : Nat → Option TyI}
theorem cellsOf_of {i : TyI} (hT : TOk P T) (hi : T t = some i) : P.cellsOf t = i.size := by
  obtain ⟨info, d, e1, e2, e3, e4, e5, e6⟩ := tyOf_spec (hT _ _ hi)
  simp [Program.cellsOf, e1, e4]
theorem bytesOf_of {i : TyI} (hT : TOk P T) (hi : T t = some i) : P.bytesOf t = i.bytes := by
  obtain ⟨info, d, e1, e2, e3, e4, e5, e6⟩ := tyOf_spec (hT _ _ hi)
  simp [Program.bytesOf, e1, e5]
theorem Dec.int' {k : IntKind} {i : TyI} (hT : TOk P T) (hi : T t = some i) (hk : i.k = .int k) : Dec enc P W t (fun n : Int => [.int k n]) (fun n => (Lit.int k n).wf = true) := by
  obtain ⟨info, d, e1, e2, e3, e4, e5, e6⟩ := tyOf_spec (hT _ _ hi)
  have hd := tk_int (P := P) (d := d) (e3 ▸ hk)
  subst hd
  exact Dec.int e2
theorem Dec.bool' {i : TyI} (hT : TOk P T) (hi : T t = some i) (hk : i.k = .bool) : Dec enc P W t (fun b : Bool => [.bool b]) (fun _ => True) := by
  obtain ⟨info, d, e1, e2, e3, e4, e5, e6⟩ := tyOf_spec (hT _ _ hi)
  have hd := tk_bool (P := P) (d := d) (e3 ▸ hk)
  subst hd
  exact Dec.bool e2
theorem Dec.string' {i : TyI} (hT : TOk P T) (hi : T t = some i) (hk : i.k = .string) : Dec enc P W t (fun s : ByteArray => [.str s]) (fun s => s.size ≤ maxLen ∧ s.size ≤ reachBytes) := by
  obtain ⟨info, d, e1, e2, e3, e4, e5, e6⟩ := tyOf_spec (hT _ _ hi)
  have hd := tk_string (P := P) (d := d) (e3 ▸ hk)
  subst hd
  exact Dec.string e2
theorem Dec.slice' {α : Type} {f : α → List AV} {Q : α → Prop} {i j : TyI} {u : Nat} (hT : TOk P T) (hi : T t = some i) (hk : i.k = .slice u) (hj : T u = some j) (hp : 0 < j.size) (he : Dec enc P W u f Q) :
    Dec enc P W t (fun l : List α => [.lst false (l.map f)]) (fun l => l.length * j.bytes ≤ reachBytes ∧ ∀ a ∈ l, Q a) := by
  obtain ⟨info, d, e1, e2, e3, e4, e5, e6⟩ := tyOf_spec (hT _ _ hi)
  have hd := tk_slice (P := P) (d := d) (e3 ▸ hk)
  subst hd
  have := Dec.slice (enc := enc) (W := W) e2 (by rw [cellsOf_of hT hj]; exact hp) he
  rwa [bytesOf_of hT hj] at this
theorem weightsEach_get : ∀ {ts : List TypeId} {ds : List (DataW H)} {t : TypeId} {d : DataW H} {i : Nat}, (DataW.weightsEach P ts ds).all (· ≤ reachBytes) = true → ts[i]? = some t → ds[i]? = some d → (d.weights P t).all (· ≤ reachBytes) = true
  | [], _, _, _, _, _, h, _ => by simp at h
  | _ :: _, [], _, _, _, _, _, h => by simp at h
  | t :: ts, d :: ds, t', d', 0, hw, h1, h2 => by
    simp at h1 h2; subst h1; subst h2
    simp only [DataW.weightsEach, List.all_append, Bool.and_eq_true] at hw
    exact hw.1
  | t :: ts, d :: ds, t', d', i + 1, hw, h1, h2 => by
    simp only [DataW.weightsEach, List.all_append, Bool.and_eq_true] at hw
    exact weightsEach_get (ts := ts) (ds := ds) hw.2 (by simpa using h1) (by simpa using h2)
def Parts (enc : TypeId × Value → H) (P : Program) (W : World) (T : Nat → Option TyI) (cs : List Value) (fs : List (Nat × Nat)) : Prop :=
  ∀ (i off u : Nat), fs[i]? = some (off, u) → ∀ {α : Type} {f : α → List AV} {Q : α → Prop}, Dec enc P W u f Q → ∃ a, Reads W ((cs.drop off).take (P.cellsOf u)) (f a) ∧ Q a
theorem struct_parts {i : TyI} {fs : List (Nat × Nat)} (hT : TOk P T) (hi : T t = some i) (hk : i.k = .struct fs) {fuel : Nat} {cs : List Value} {x : DataW H × List MemPlace} (h : DataW.trod enc P W 0 (fun _ => true) true fuel t cs = some x) (hw : (x.1.weights P t).all (· ≤ reachBytes) = true) :
    cs.length = i.size ∧ Parts enc P W T cs fs := by
  obtain ⟨info, d, e1, e2, e3, e4, e5, e6⟩ := tyOf_spec (hT _ _ hi)
  obtain ⟨A, rfl, rfl, _⟩ := tk_struct (P := P) (d := d) (e3 ▸ hk)
  obtain ⟨xs, n, rfl, rfl, hl, hxl, hx⟩ := DataW.trod_struct e2 h
  refine ⟨by rw [hl, cellsOf_of hT hi], fun j off u hj α f Q hd => ?_⟩
  rw [List.getElem?_map, Option.map_eq_some_iff] at hj
  obtain ⟨F, hF, hF2⟩ := hj
  simp only [Prod.mk.injEq] at hF2
  obtain ⟨rfl, rfl⟩ := hF2
  have hFa : A[j]? = some F := by simpa using hF
  have hjlt : j < xs.length := by rw [hxl]; exact (Array.getElem?_eq_some_iff.1 hFa).1
  have h1 := hx j F hFa
  rw [List.getElem?_eq_getElem hjlt] at h1
  simp only [DataW.weights, e2] at hw
  exact hd _ _ _ h1 (weightsEach_get hw (i := j) (by rw [List.getElem?_map, hF]; rfl) (by rw [List.getElem?_map, List.getElem?_eq_getElem hjlt]; rfl))
theorem Reads.nil (W : World) (cs : List Value) : Reads W (cs.take 0) [] := ⟨by simp, fun j x v h => by simp at h⟩
theorem Reads.app {cs : List Value} {off n : Nat} {xs ys : List AV} (h1 : Reads W (cs.take off) xs) (h2 : Reads W ((cs.drop off).take n) ys) (ho : off ≤ cs.length) : Reads W (cs.take (off + n)) (xs ++ ys) := by
  have hl1 : xs.length = off := by rw [h1.1, List.length_take]; omega
  refine ⟨by rw [List.length_append, h2.1, hl1]; simp only [List.length_take, List.length_drop]; omega, fun j x v hx hv => ?_⟩
  rw [List.take_add] at hv
  by_cases hj : j < off
  · rw [List.getElem?_append_left (by omega)] at hx
    rw [List.getElem?_append_left (by rw [List.length_take]; omega)] at hv
    exact h1.2 j x v hx hv
  · rw [List.getElem?_append_right (by omega)] at hx
    rw [List.getElem?_append_right (by rw [List.length_take]; omega)] at hv
    have hll : (List.take off cs).length = off := by rw [List.length_take]; omega
    rw [hll] at hv
    rw [hl1] at hx
    exact h2.2 _ x v hx hv
theorem Reads.all {cs : List Value} {n : Nat} {xs : List AV} (h : Reads W (cs.take n) xs) (hn : cs.length = n) : Reads W cs xs := by
  rwa [List.take_of_length_le (by omega)] at h
theorem arg_one {α : Type} {f : α → List AV} {Q : α → Prop} {v : Value} {d : DataW H} {ps : List MemPlace} (h : DataW.Trod enc P W 0 (fun _ => true) true t v d ps) (hw : (d.weights P t).all (· ≤ reachBytes) = true) (hd : Dec enc P W t f Q) : ∃ a, Reads W v.cells.toList (f a) ∧ Q a := by
  obtain ⟨fuel, hf⟩ := h
  exact hd _ _ _ hf hw
theorem Reads.val {v : Value} {xs : List AV} (h : Reads W v.cells.toList xs) (hv : ∃ cs, v = .agg cs) : Rel (heapKnow W) noLay (.agg xs) v := by
  obtain ⟨cs, rfl⟩ := hv
  exact .agg _ _ _ (by simpa [Value.cells] using h.1) fun j x u h1 h2 => (h.2 j x u h1 (by simpa [Value.cells] using h2)).1
theorem Reads.val1 {v : Value} {x : AV} (h : Reads W v.cells.toList [x]) (hv : ∀ cs, v ≠ .agg cs) : Rel (heapKnow W) noLay x v := by
  have hc : v.cells.toList = [v] := by cases v <;> first | rfl | exact absurd rfl (hv _)
  rw [hc] at h
  exact (h.2 0 x v rfl rfl).1
theorem okWide_agg {b0 : Nat} {v : Value} {i : TyI} {fs : List (Nat × Nat)} (hT : TOk P T) (hi : T t = some i) (hk : i.k = .struct fs) (h : Value.okWide P W .any b0 t v) : ∃ cs, v = .agg cs := by
  obtain ⟨info, d, e1, e2, e3, e4, e5, e6⟩ := tyOf_spec (hT _ _ hi)
  obtain ⟨A, rfl, _, _⟩ := tk_struct (P := P) (d := d) (e3 ▸ hk)
  unfold Value.okWide at h
  rw [e2] at h
  obtain ⟨cs, h1, _⟩ := h
  exact ⟨cs, h1⟩
theorem Grow.kept {H0 H' : Know} {W W' : World} (g : Grow H0 W H' W') (may : MemPlace → Prop) : W.keptBut W' may := by
  refine ⟨g.os, g.out, fun i hi => ?_⟩
  rw [g.keep i hi]
  split <;> simp_all
theorem post_law {f : Func} {s : ChangeSpec} {apart fresh handsOn : Bool} {W W' : World} {args : Array Value} {v : Value} {ds gs : List (DataW H)} {before pa pv : List MemPlace}
    (hW : DataW.Whole enc P f.params.toList s.vars apart W args.toList ds gs before)
    (hres : ∀ (b : Nat) (sp : Nat → Bool) (hd : Bool), DataW.TrodAll enc P W' b sp hd f.resultTypes.toList (v.resultList f.resultTypes.size) (s.fn H (ds ++ gs)).results [])
    (hargs : ∀ sp : Nat → Bool, (∀ p ∈ before, sp p.block = true) → DataW.TrodAll enc P W' 0 sp true f.params.toList args.toList (s.fn H (ds ++ gs)).args pa)
    (hvars : ∀ sp : Nat → Bool, (∀ p ∈ before, sp p.block = true) → DataW.TrodVars enc P W' sp s.vars (s.fn H (ds ++ gs)).vars pv)
    (hps : before = pa ++ pv) (hk : ∀ may : MemPlace → Prop, W.keptBut W' may) : s.post enc P f apart fresh handsOn false W args v W' := by
  have hold : ∀ p ∈ before, (fun b => decide (b < W.heap.size)) p.block = true := fun p hp => by simpa using hW.lt p hp
  exact ⟨ds, gs, before, [], pa, pv, hW, hres _ _ _, hargs _ hold, hvars _ hold, hk _, fun h => by cases h⟩
theorem trodAll_stays (hl : laidOutB P = true) {W' : World} {sp : Nat → Bool} : ∀ {ts : List TypeId} {vs : List Value} {ds : List (DataW H)} {ps : List MemPlace}, ts.all (fun t => P.readableRec t && decide (t < P.types.size)) = true →
    DataW.TrodAll enc P W 0 (fun _ => true) true ts vs ds ps → (∀ p ∈ ps, W.sameAt W' p) → (∀ p ∈ ps, sp p.block = true) → DataW.TrodAll enc P W' 0 sp true ts vs ds ps
  | [], vs, ds, ps, _, h, _, _ => by
    obtain ⟨rfl, rfl, rfl⟩ := trodAll_nil h
    rfl
  | t :: ts, vs, ds, ps, hr, h, h1, h2 => by
    obtain ⟨v, vs', d, ds', p, q, rfl, rfl, rfl, hd, hrest⟩ := trodAll_cons h
    simp only [List.all_cons, Bool.and_eq_true, decide_eq_true_eq] at hr
    exact ⟨p, q, WideElems.Trod_stays hl hr.1.1 hr.1.2 hd (fun x hx => h1 x (by simp [hx])) (fun x hx => h2 x (by simp [hx])), trodAll_stays hl hr.2 hrest (fun x hx => h1 x (by simp [hx])) (fun x hx => h2 x (by simp [hx])), rfl⟩
theorem Grow.same {H0 H' : Know} {W W' : World} (g : Grow H0 W H' W') {p : MemPlace} (hp : p.block < W.heap.size) : W.sameAt W' p := by
  cases p with
  | cell b off =>
    have := g.keep b hp
    show W'.cell? _ = W.cell? _
    unfold World.cell?
    simp only [this]
  | map b => exact g.keep b hp
theorem law_calls {f : FuncId} {fn : Func} {s : ChangeSpec} {args : Array Value} {ds gs : List (DataW H)} {before : List MemPlace} {tb : TypeId} {xs : List AV} (hl : laidOutB P = true) (hvs : s.vars = []) (hr : fn.params.toList.all (fun t => P.readableRec t && decide (t < P.types.size)) = true)
    (hres : fn.resultTypes = #[tb]) (hb : P.underlying tb = some .bool) (hs1 : (s.fn H (ds ++ gs)).results = [.lit (.bool true)]) (hs2 : (s.fn H (ds ++ gs)).args = ds) (hs3 : (s.fn H (ds ++ gs)).vars = [])
    (hW : DataW.Whole enc P fn.params.toList s.vars false W args.toList ds gs before) (hrel : RelAll (heapKnow W) noLay xs args) (hc : APure P f xs (fun r => r = .bool true)) (hg : GlobOk (heapKnow W)) {fresh handsOn : Bool} :
    Calls P f args W fun e W' => ∃ v, e = .returned v ∧ s.post enc P fn false fresh handsOn false W args v W' := by
  have hW' := hW
  obtain ⟨p, q, hA, hV, rfl, hfz, hnd⟩ := hW
  rw [hvs] at hV
  obtain ⟨rfl, rfl⟩ := trodVars_none hV
  have hlt : ∀ x ∈ p ++ [], x.block < W.heap.size := fun x hx => hW'.lt x hx
  refine (hc (heapKnow W) W args hrel (heapKnow_ok W hg)).mono fun e W' hx => ?_
  obtain ⟨v, r, H', rfl, rfl, h3, h4⟩ := hx
  have hv := h3.bool_inv
  subst hv
  refine ⟨_, rfl, post_law (pa := p) (pv := []) hW' (fun b sp hd => ?_) (fun sp hsp => ?_) (fun sp hsp => ?_) rfl (fun may => h4.kept may)⟩
  · rw [hs1, hres]
    exact trodAll_mk1 (shut_bool hb true)
  · rw [hs2]
    exact trodAll_stays hl hr hA (fun x hx => h4.same (hlt x (by simp [hx]))) (fun x hx => hsp x (by simp [hx]))
  · rw [hs3, hvs]; rfl
theorem RelAll.nil {K : Know} {ι : Lay} : RelAll K ι [] #[] := ⟨rfl, fun j x v h => by simp at h⟩
theorem RelAll.cons {K : Know} {ι : Lay} {x : AV} {xs : List AV} {v : Value} {vs : List Value} (h : Rel K ι x v) (hs : RelAll K ι xs ⟨vs⟩) : RelAll K ι (x :: xs) ⟨v :: vs⟩ := by
  refine ⟨by have := hs.1; simp at this ⊢; exact this, fun j y u h1 h2 => ?_⟩
  cases j with
  | zero => simp at h1 h2; subst h1; subst h2; exact h
  | succ j => exact hs.2 j y u (by simpa using h1) (by simpa using h2)
end
end Go.Proofs.Ytmfihmkopmgelaa.Sv

namespace Go.Proofs.Ytmfihmkopmgelaa.Sv
open Go
abbrev ty0 : TyI := ⟨.other, 1, 0, []⟩
abbrev ty1 : TyI := ⟨.other, 1, 8, []⟩
abbrev ty2 : TyI := ⟨.int .i64, 1, 8, [.int .i64 0]⟩
abbrev ty3 : TyI := ⟨.int .i64, 1, 8, [.int .i64 0]⟩
abbrev ty4 : TyI := ⟨.bool, 1, 1, [.bool false]⟩
abbrev ty5 : TyI := ⟨.int .u8, 1, 1, [.int .u8 0]⟩
abbrev ty6 : TyI := ⟨.int .u8, 1, 1, [.int .u8 0]⟩
abbrev ty7 : TyI := ⟨.struct [(0, 2), (1, 3), (2, 4), (3, 6)], 4, 24, [.int .i64 0, .int .i64 0, .bool false, .int .u8 0]⟩
abbrev ty8 : TyI := ⟨.struct [(0, 2), (1, 3), (2, 4), (3, 6)], 4, 24, [.int .i64 0, .int .i64 0, .bool false, .int .u8 0]⟩
abbrev ty9 : TyI := ⟨.string, 1, 16, [.str ⟨#[]⟩]⟩
abbrev ty10 : TyI := ⟨.string, 1, 16, [.str ⟨#[]⟩]⟩
abbrev ty11 : TyI := ⟨.string, 1, 16, [.str ⟨#[]⟩]⟩
abbrev ty12 : TyI := ⟨.int .u64, 1, 8, [.int .u64 0]⟩
abbrev ty13 : TyI := ⟨.struct [(0, 9), (1, 12)], 2, 24, [.str ⟨#[]⟩, .int .u64 0]⟩
abbrev ty14 : TyI := ⟨.struct [(0, 9), (1, 12)], 2, 24, [.str ⟨#[]⟩, .int .u64 0]⟩
abbrev ty15 : TyI := ⟨.ptr 153, 1, 8, [.nilp]⟩
abbrev ty16 : TyI := ⟨.ptr 156, 1, 8, [.nilp]⟩
abbrev ty17 : TyI := ⟨.ptr 164, 1, 8, [.nilp]⟩
abbrev ty18 : TyI := ⟨.struct [(0, 17)], 1, 8, [.nilp]⟩
abbrev ty19 : TyI := ⟨.struct [(0, 17)], 1, 8, [.nilp]⟩
abbrev ty20 : TyI := ⟨.other, 1, 16, []⟩
abbrev ty21 : TyI := ⟨.int .i32, 1, 4, [.int .i32 0]⟩
abbrev ty22 : TyI := ⟨.slice 50, 1, 24, [.nil]⟩
abbrev ty23 : TyI := ⟨.struct [(0, 3), (1, 22)], 2, 32, [.int .i64 0, .nil]⟩
abbrev ty24 : TyI := ⟨.struct [(0, 3), (1, 22)], 2, 32, [.int .i64 0, .nil]⟩
abbrev ty25 : TyI := ⟨.other, 1, 8, []⟩
abbrev ty26 : TyI := ⟨.other, 1, 8, []⟩
abbrev ty27 : TyI := ⟨.slice 70, 1, 24, [.nil]⟩
abbrev ty28 : TyI := ⟨.struct [(0, 3), (1, 27)], 2, 32, [.int .i64 0, .nil]⟩
abbrev ty29 : TyI := ⟨.struct [(0, 3), (1, 27)], 2, 32, [.int .i64 0, .nil]⟩
abbrev ty30 : TyI := ⟨.other, 1, 8, []⟩
abbrev ty31 : TyI := ⟨.other, 1, 8, []⟩
abbrev ty32 : TyI := ⟨.struct [(0, 3), (1, 9), (2, 3)], 3, 32, [.int .i64 0, .str ⟨#[]⟩, .int .i64 0]⟩
abbrev ty33 : TyI := ⟨.struct [(0, 3), (1, 9), (2, 3)], 3, 32, [.int .i64 0, .str ⟨#[]⟩, .int .i64 0]⟩
abbrev ty34 : TyI := ⟨.other, 1, 8, []⟩
abbrev ty35 : TyI := ⟨.other, 1, 8, []⟩
abbrev ty36 : TyI := ⟨.other, 1, 8, []⟩
abbrev ty37 : TyI := ⟨.other, 1, 8, []⟩
abbrev ty38 : TyI := ⟨.other, 1, 8, []⟩
abbrev ty39 : TyI := ⟨.other, 1, 8, []⟩
abbrev ty40 : TyI := ⟨.int .u32, 1, 4, [.int .u32 0]⟩
abbrev ty41 : TyI := ⟨.slice 43, 1, 24, [.nil]⟩
abbrev ty42 : TyI := ⟨.struct [(0, 3), (1, 3), (2, 40), (3, 3), (4, 3), (5, 41)], 6, 64, [.int .i64 0, .int .i64 0, .int .u32 0, .int .i64 0, .int .i64 0, .nil]⟩
abbrev ty43 : TyI := ⟨.struct [(0, 3), (1, 3), (2, 40), (3, 3), (4, 3), (5, 41)], 6, 64, [.int .i64 0, .int .i64 0, .int .u32 0, .int .i64 0, .int .i64 0, .nil]⟩
abbrev ty44 : TyI := ⟨.other, 1, 8, []⟩
abbrev ty45 : TyI := ⟨.slice 47, 1, 24, [.nil]⟩
abbrev ty46 : TyI := ⟨.struct [(0, 3), (1, 3), (2, 3), (3, 41), (4, 45), (5, 45)], 6, 96, [.int .i64 0, .int .i64 0, .int .i64 0, .nil, .nil, .nil]⟩
abbrev ty47 : TyI := ⟨.struct [(0, 3), (1, 3), (2, 3), (3, 41), (4, 45), (5, 45)], 6, 96, [.int .i64 0, .int .i64 0, .int .i64 0, .nil, .nil, .nil]⟩
abbrev ty48 : TyI := ⟨.other, 1, 8, []⟩
abbrev ty49 : TyI := ⟨.struct [(0, 3), (1, 3), (2, 3), (3, 4), (4, 45)], 5, 56, [.int .i64 0, .int .i64 0, .int .i64 0, .bool false, .nil]⟩
abbrev ty50 : TyI := ⟨.struct [(0, 3), (1, 3), (2, 3), (3, 4), (4, 45)], 5, 56, [.int .i64 0, .int .i64 0, .int .i64 0, .bool false, .nil]⟩
abbrev ty51 : TyI := ⟨.slice 5, 1, 24, [.nil]⟩
abbrev ty52 : TyI := ⟨.other, 1, 8, []⟩
abbrev ty53 : TyI := ⟨.other, 1, 8, []⟩
abbrev ty54 : TyI := ⟨.other, 1, 8, []⟩
abbrev ty55 : TyI := ⟨.other, 1, 8, []⟩
abbrev ty56 : TyI := ⟨.other, 1, 0, []⟩
abbrev ty57 : TyI := ⟨.other, 1, 8, []⟩
abbrev ty58 : TyI := ⟨.other, 1, 8, []⟩
abbrev ty59 : TyI := ⟨.other, 1, 8, []⟩
abbrev ty60 : TyI := ⟨.other, 1, 8, []⟩
abbrev ty61 : TyI := ⟨.other, 1, 8, []⟩
abbrev ty62 : TyI := ⟨.ptr 65, 1, 8, [.nilp]⟩
abbrev ty63 : TyI := ⟨.slice 101, 1, 24, [.nil]⟩
abbrev ty64 : TyI := ⟨.struct [(0, 22), (1, 3), (2, 4), (3, 3), (4, 63), (5, 3)], 6, 80, [.nil, .int .i64 0, .bool false, .int .i64 0, .nil, .int .i64 0]⟩
abbrev ty65 : TyI := ⟨.struct [(0, 22), (1, 3), (2, 4), (3, 3), (4, 63), (5, 3)], 6, 80, [.nil, .int .i64 0, .bool false, .int .i64 0, .nil, .int .i64 0]⟩
abbrev ty66 : TyI := ⟨.other, 1, 8, []⟩
abbrev ty67 : TyI := ⟨.other, 1, 8, []⟩
abbrev ty68 : TyI := ⟨.other, 1, 8, []⟩
abbrev ty69 : TyI := ⟨.struct [(0, 3), (1, 63)], 2, 32, [.int .i64 0, .nil]⟩
abbrev ty70 : TyI := ⟨.struct [(0, 3), (1, 63)], 2, 32, [.int .i64 0, .nil]⟩
abbrev ty71 : TyI := ⟨.other, 1, 8, []⟩
abbrev ty72 : TyI := ⟨.ptr 75, 1, 8, [.nilp]⟩
abbrev ty73 : TyI := ⟨.slice 40, 1, 24, [.nil]⟩
abbrev ty74 : TyI := ⟨.struct [(0, 24), (2, 73), (3, 9), (4, 3), (5, 51), (6, 3), (7, 3), (8, 3), (9, 4), (10, 40)], 11, 136, [.int .i64 0, .nil, .nil, .str ⟨#[]⟩, .int .i64 0, .nil, .int .i64 0, .int .i64 0, .int .i64 0, .bool false, .int .u32 0]⟩
abbrev ty75 : TyI := ⟨.struct [(0, 24), (2, 73), (3, 9), (4, 3), (5, 51), (6, 3), (7, 3), (8, 3), (9, 4), (10, 40)], 11, 136, [.int .i64 0, .nil, .nil, .str ⟨#[]⟩, .int .i64 0, .nil, .int .i64 0, .int .i64 0, .int .i64 0, .bool false, .int .u32 0]⟩
abbrev ty76 : TyI := ⟨.ptr 78, 1, 8, [.nilp]⟩
abbrev ty77 : TyI := ⟨.struct [(0, 29), (2, 9), (3, 3), (4, 73), (5, 51), (6, 3), (7, 3), (8, 3)], 9, 128, [.int .i64 0, .nil, .str ⟨#[]⟩, .int .i64 0, .nil, .nil, .int .i64 0, .int .i64 0, .int .i64 0]⟩
abbrev ty78 : TyI := ⟨.struct [(0, 29), (2, 9), (3, 3), (4, 73), (5, 51), (6, 3), (7, 3), (8, 3)], 9, 128, [.int .i64 0, .nil, .str ⟨#[]⟩, .int .i64 0, .nil, .nil, .int .i64 0, .int .i64 0, .int .i64 0]⟩
abbrev ty79 : TyI := ⟨.other, 1, 8, []⟩
abbrev ty80 : TyI := ⟨.other, 1, 8, []⟩
abbrev ty81 : TyI := ⟨.other, 1, 8, []⟩
abbrev ty82 : TyI := ⟨.other, 1, 8, []⟩
abbrev ty83 : TyI := ⟨.ptr 85, 1, 8, [.nilp]⟩
abbrev ty84 : TyI := ⟨.struct [(0, 22), (1, 73), (2, 9), (3, 3), (4, 51), (5, 3), (6, 3)], 7, 112, [.nil, .nil, .str ⟨#[]⟩, .int .i64 0, .nil, .int .i64 0, .int .i64 0]⟩
abbrev ty85 : TyI := ⟨.struct [(0, 22), (1, 73), (2, 9), (3, 3), (4, 51), (5, 3), (6, 3)], 7, 112, [.nil, .nil, .str ⟨#[]⟩, .int .i64 0, .nil, .int .i64 0, .int .i64 0]⟩
abbrev ty86 : TyI := ⟨.struct [(0, 3)], 1, 8, [.int .i64 0]⟩
abbrev ty87 : TyI := ⟨.struct [(0, 3)], 1, 8, [.int .i64 0]⟩
abbrev ty88 : TyI := ⟨.other, 1, 0, []⟩
abbrev ty89 : TyI := ⟨.other, 1, 8, []⟩
abbrev ty90 : TyI := ⟨.ptr 93, 1, 8, [.nilp]⟩
abbrev ty91 : TyI := ⟨.slice 73, 1, 24, [.nil]⟩
abbrev ty92 : TyI := ⟨.struct [(0, 27), (1, 73), (2, 91), (3, 9), (4, 3), (5, 51)], 6, 120, [.nil, .nil, .nil, .str ⟨#[]⟩, .int .i64 0, .nil]⟩
abbrev ty93 : TyI := ⟨.struct [(0, 27), (1, 73), (2, 91), (3, 9), (4, 3), (5, 51)], 6, 120, [.nil, .nil, .nil, .str ⟨#[]⟩, .int .i64 0, .nil]⟩
abbrev ty94 : TyI := ⟨.struct [(0, 3), (1, 3), (2, 3), (3, 73)], 4, 48, [.int .i64 0, .int .i64 0, .int .i64 0, .nil]⟩
abbrev ty95 : TyI := ⟨.struct [(0, 3), (1, 3), (2, 3), (3, 73)], 4, 48, [.int .i64 0, .int .i64 0, .int .i64 0, .nil]⟩
abbrev ty96 : TyI := ⟨.other, 1, 8, []⟩
abbrev ty97 : TyI := ⟨.slice 95, 1, 24, [.nil]⟩
abbrev ty98 : TyI := ⟨.ptr 101, 1, 8, [.nilp]⟩
abbrev ty99 : TyI := ⟨.slice 104, 1, 24, [.nil]⟩
abbrev ty100 : TyI := ⟨.struct [(0, 99), (1, 3), (2, 3), (3, 3), (4, 3)], 5, 56, [.nil, .int .i64 0, .int .i64 0, .int .i64 0, .int .i64 0]⟩
abbrev ty101 : TyI := ⟨.struct [(0, 99), (1, 3), (2, 3), (3, 3), (4, 3)], 5, 56, [.nil, .int .i64 0, .int .i64 0, .int .i64 0, .int .i64 0]⟩
abbrev ty102 : TyI := ⟨.ptr 104, 1, 8, [.nilp]⟩
abbrev ty103 : TyI := ⟨.struct [(0, 3), (1, 3), (2, 3), (3, 3), (4, 3), (5, 3), (6, 3), (7, 40)], 8, 64, [.int .i64 0, .int .i64 0, .int .i64 0, .int .i64 0, .int .i64 0, .int .i64 0, .int .i64 0, .int .u32 0]⟩
abbrev ty104 : TyI := ⟨.struct [(0, 3), (1, 3), (2, 3), (3, 3), (4, 3), (5, 3), (6, 3), (7, 40)], 8, 64, [.int .i64 0, .int .i64 0, .int .i64 0, .int .i64 0, .int .i64 0, .int .i64 0, .int .i64 0, .int .u32 0]⟩
abbrev ty105 : TyI := ⟨.other, 1, 8, []⟩
abbrev ty106 : TyI := ⟨.other, 1, 8, []⟩
abbrev ty107 : TyI := ⟨.other, 1, 8, []⟩
abbrev ty108 : TyI := ⟨.other, 1, 8, []⟩
abbrev ty109 : TyI := ⟨.other, 1, 8, []⟩
abbrev ty110 : TyI := ⟨.other, 1, 8, []⟩
abbrev ty111 : TyI := ⟨.ptr 47, 1, 8, [.nilp]⟩
abbrev ty112 : TyI := ⟨.other, 1, 8, []⟩
abbrev ty113 : TyI := ⟨.other, 1, 8, []⟩
abbrev ty114 : TyI := ⟨.other, 1, 8, []⟩
abbrev ty115 : TyI := ⟨.other, 1, 8, []⟩
abbrev ty116 : TyI := ⟨.other, 1, 8, []⟩
abbrev ty117 : TyI := ⟨.other, 1, 8, []⟩
abbrev ty118 : TyI := ⟨.other, 1, 8, []⟩
abbrev ty119 : TyI := ⟨.int .i64, 1, 8, [.int .i64 0]⟩
abbrev ty120 : TyI := ⟨.other, 1, 0, []⟩
abbrev ty121 : TyI := ⟨.other, 1, 8, []⟩
abbrev ty122 : TyI := ⟨.int .u64, 1, 8, [.int .u64 0]⟩
abbrev ty123 : TyI := ⟨.other, 1, 8, []⟩
abbrev ty124 : TyI := ⟨.other, 1, 8, []⟩
abbrev ty125 : TyI := ⟨.other, 1, 8, []⟩
abbrev ty126 : TyI := ⟨.other, 1, 8, []⟩
abbrev ty127 : TyI := ⟨.other, 1, 8, []⟩
abbrev ty128 : TyI := ⟨.ptr 43, 1, 8, [.nilp]⟩
abbrev ty129 : TyI := ⟨.other, 1, 8, []⟩
abbrev ty130 : TyI := ⟨.other, 1, 8, []⟩
abbrev ty131 : TyI := ⟨.other, 1, 8, []⟩
abbrev ty132 : TyI := ⟨.slice 3, 1, 24, [.nil]⟩
abbrev ty133 : TyI := ⟨.other, 1, 8, []⟩
abbrev ty134 : TyI := ⟨.other, 1, 8, []⟩
abbrev ty135 : TyI := ⟨.other, 1, 8, []⟩
abbrev ty136 : TyI := ⟨.other, 1, 8, []⟩
abbrev ty137 : TyI := ⟨.other, 1, 8, []⟩
abbrev ty138 : TyI := ⟨.other, 1, 8, []⟩
abbrev ty139 : TyI := ⟨.other, 1, 8, []⟩
abbrev ty140 : TyI := ⟨.other, 1, 8, []⟩
abbrev ty141 : TyI := ⟨.other, 1, 8, []⟩
abbrev ty142 : TyI := ⟨.other, 1, 8, []⟩
abbrev ty143 : TyI := ⟨.other, 1, 8, []⟩
abbrev ty144 : TyI := ⟨.other, 1, 8, []⟩
abbrev ty145 : TyI := ⟨.other, 1, 8, []⟩
abbrev ty146 : TyI := ⟨.array 6 40, 6, 24, [.int .u32 0, .int .u32 0, .int .u32 0, .int .u32 0, .int .u32 0, .int .u32 0]⟩
abbrev ty147 : TyI := ⟨.ptr 50, 1, 8, [.nilp]⟩
abbrev ty148 : TyI := ⟨.other, 1, 8, []⟩
abbrev ty149 : TyI := ⟨.other, 1, 8, []⟩
abbrev ty150 : TyI := ⟨.other, 1, 8, []⟩
abbrev ty151 : TyI := ⟨.other, 1, 8, []⟩
abbrev ty152 : TyI := ⟨.struct [(0, 17), (1, 17), (2, 17), (3, 9)], 4, 40, [.nilp, .nilp, .nilp, .str ⟨#[]⟩]⟩
abbrev ty153 : TyI := ⟨.struct [(0, 17), (1, 17), (2, 17), (3, 9)], 4, 40, [.nilp, .nilp, .nilp, .str ⟨#[]⟩]⟩
abbrev ty154 : TyI := ⟨.array 0 16, 0, 0, []⟩
abbrev ty155 : TyI := ⟨.other, 0, 0, []⟩
abbrev ty156 : TyI := ⟨.other, 0, 0, []⟩
abbrev ty157 : TyI := ⟨.int .u8, 1, 1, [.int .u8 0]⟩
abbrev ty158 : TyI := ⟨.int .u8, 1, 1, [.int .u8 0]⟩
abbrev ty159 : TyI := ⟨.other, 1, 8, []⟩
abbrev ty160 : TyI := ⟨.ptr 5, 1, 8, [.nilp]⟩
abbrev ty161 : TyI := ⟨.int .i32, 1, 4, [.int .i32 0]⟩
abbrev ty162 : TyI := ⟨.int .i32, 1, 4, [.int .i32 0]⟩
abbrev ty163 : TyI := ⟨.struct [(0, 12), (1, 12), (2, 40), (3, 157), (4, 5), (5, 5), (6, 158), (7, 159), (8, 160), (9, 161), (10, 162)], 11, 48, []⟩
abbrev ty164 : TyI := ⟨.struct [(0, 12), (1, 12), (2, 40), (3, 157), (4, 5), (5, 5), (6, 158), (7, 159), (8, 160), (9, 161), (10, 162)], 11, 48, []⟩
abbrev ty165 : TyI := ⟨.other, 1, 8, [.nilp]⟩
def TI (t : Nat) : Option TyI := bif Nat.blt t 166 then (bif Nat.blt t 83 then (bif Nat.blt t 41 then (bif Nat.blt t 20 then (bif Nat.blt t 10 then (bif Nat.blt t 5 then (bif Nat.blt t 2 then (bif Nat.blt t 1 then some ty0 else some ty1) else (bif Nat.blt t 3 then some ty2 else (bif Nat.blt t 4 then some ty3 else some ty4))) else (bif Nat.blt t 7 then (bif Nat.blt t 6 then some ty5 else some ty6) else (bif Nat.blt t 8 then some ty7 else (bif Nat.blt t 9 then some ty8 else some ty9)))) else (bif Nat.blt t 15 then (bif Nat.blt t 12 then (bif Nat.blt t 11 then some ty10 else some ty11) else (bif Nat.blt t 13 then some ty12 else (bif Nat.blt t 14 then some ty13 else some ty14))) else (bif Nat.blt t 17 then (bif Nat.blt t 16 then some ty15 else some ty16) else (bif Nat.blt t 18 then some ty17 else (bif Nat.blt t 19 then some ty18 else some ty19))))) else (bif Nat.blt t 30 then (bif Nat.blt t 25 then (bif Nat.blt t 22 then (bif Nat.blt t 21 then some ty20 else some ty21) else (bif Nat.blt t 23 then some ty22 else (bif Nat.blt t 24 then some ty23 else some ty24))) else (bif Nat.blt t 27 then (bif Nat.blt t 26 then some ty25 else some ty26) else (bif Nat.blt t 28 then some ty27 else (bif Nat.blt t 29 then some ty28 else some ty29)))) else (bif Nat.blt t 35 then (bif Nat.blt t 32 then (bif Nat.blt t 31 then some ty30 else some ty31) else (bif Nat.blt t 33 then some ty32 else (bif Nat.blt t 34 then some ty33 else some ty34))) else (bif Nat.blt t 38 then (bif Nat.blt t 36 then some ty35 else (bif Nat.blt t 37 then some ty36 else some ty37)) else (bif Nat.blt t 39 then some ty38 else (bif Nat.blt t 40 then some ty39 else some ty40)))))) else (bif Nat.blt t 62 then (bif Nat.blt t 51 then (bif Nat.blt t 46 then (bif Nat.blt t 43 then (bif Nat.blt t 42 then some ty41 else some ty42) else (bif Nat.blt t 44 then some ty43 else (bif Nat.blt t 45 then some ty44 else some ty45))) else (bif Nat.blt t 48 then (bif Nat.blt t 47 then some ty46 else some ty47) else (bif Nat.blt t 49 then some ty48 else (bif Nat.blt t 50 then some ty49 else some ty50)))) else (bif Nat.blt t 56 then (bif Nat.blt t 53 then (bif Nat.blt t 52 then some ty51 else some ty52) else (bif Nat.blt t 54 then some ty53 else (bif Nat.blt t 55 then some ty54 else some ty55))) else (bif Nat.blt t 59 then (bif Nat.blt t 57 then some ty56 else (bif Nat.blt t 58 then some ty57 else some ty58)) else (bif Nat.blt t 60 then some ty59 else (bif Nat.blt t 61 then some ty60 else some ty61))))) else (bif Nat.blt t 72 then (bif Nat.blt t 67 then (bif Nat.blt t 64 then (bif Nat.blt t 63 then some ty62 else some ty63) else (bif Nat.blt t 65 then some ty64 else (bif Nat.blt t 66 then some ty65 else some ty66))) else (bif Nat.blt t 69 then (bif Nat.blt t 68 then some ty67 else some ty68) else (bif Nat.blt t 70 then some ty69 else (bif Nat.blt t 71 then some ty70 else some ty71)))) else (bif Nat.blt t 77 then (bif Nat.blt t 74 then (bif Nat.blt t 73 then some ty72 else some ty73) else (bif Nat.blt t 75 then some ty74 else (bif Nat.blt t 76 then some ty75 else some ty76))) else (bif Nat.blt t 80 then (bif Nat.blt t 78 then some ty77 else (bif Nat.blt t 79 then some ty78 else some ty79)) else (bif Nat.blt t 81 then some ty80 else (bif Nat.blt t 82 then some ty81 else some ty82))))))) else (bif Nat.blt t 124 then (bif Nat.blt t 103 then (bif Nat.blt t 93 then (bif Nat.blt t 88 then (bif Nat.blt t 85 then (bif Nat.blt t 84 then some ty83 else some ty84) else (bif Nat.blt t 86 then some ty85 else (bif Nat.blt t 87 then some ty86 else some ty87))) else (bif Nat.blt t 90 then (bif Nat.blt t 89 then some ty88 else some ty89) else (bif Nat.blt t 91 then some ty90 else (bif Nat.blt t 92 then some ty91 else some ty92)))) else (bif Nat.blt t 98 then (bif Nat.blt t 95 then (bif Nat.blt t 94 then some ty93 else some ty94) else (bif Nat.blt t 96 then some ty95 else (bif Nat.blt t 97 then some ty96 else some ty97))) else (bif Nat.blt t 100 then (bif Nat.blt t 99 then some ty98 else some ty99) else (bif Nat.blt t 101 then some ty100 else (bif Nat.blt t 102 then some ty101 else some ty102))))) else (bif Nat.blt t 113 then (bif Nat.blt t 108 then (bif Nat.blt t 105 then (bif Nat.blt t 104 then some ty103 else some ty104) else (bif Nat.blt t 106 then some ty105 else (bif Nat.blt t 107 then some ty106 else some ty107))) else (bif Nat.blt t 110 then (bif Nat.blt t 109 then some ty108 else some ty109) else (bif Nat.blt t 111 then some ty110 else (bif Nat.blt t 112 then some ty111 else some ty112)))) else (bif Nat.blt t 118 then (bif Nat.blt t 115 then (bif Nat.blt t 114 then some ty113 else some ty114) else (bif Nat.blt t 116 then some ty115 else (bif Nat.blt t 117 then some ty116 else some ty117))) else (bif Nat.blt t 121 then (bif Nat.blt t 119 then some ty118 else (bif Nat.blt t 120 then some ty119 else some ty120)) else (bif Nat.blt t 122 then some ty121 else (bif Nat.blt t 123 then some ty122 else some ty123)))))) else (bif Nat.blt t 145 then (bif Nat.blt t 134 then (bif Nat.blt t 129 then (bif Nat.blt t 126 then (bif Nat.blt t 125 then some ty124 else some ty125) else (bif Nat.blt t 127 then some ty126 else (bif Nat.blt t 128 then some ty127 else some ty128))) else (bif Nat.blt t 131 then (bif Nat.blt t 130 then some ty129 else some ty130) else (bif Nat.blt t 132 then some ty131 else (bif Nat.blt t 133 then some ty132 else some ty133)))) else (bif Nat.blt t 139 then (bif Nat.blt t 136 then (bif Nat.blt t 135 then some ty134 else some ty135) else (bif Nat.blt t 137 then some ty136 else (bif Nat.blt t 138 then some ty137 else some ty138))) else (bif Nat.blt t 142 then (bif Nat.blt t 140 then some ty139 else (bif Nat.blt t 141 then some ty140 else some ty141)) else (bif Nat.blt t 143 then some ty142 else (bif Nat.blt t 144 then some ty143 else some ty144))))) else (bif Nat.blt t 155 then (bif Nat.blt t 150 then (bif Nat.blt t 147 then (bif Nat.blt t 146 then some ty145 else some ty146) else (bif Nat.blt t 148 then some ty147 else (bif Nat.blt t 149 then some ty148 else some ty149))) else (bif Nat.blt t 152 then (bif Nat.blt t 151 then some ty150 else some ty151) else (bif Nat.blt t 153 then some ty152 else (bif Nat.blt t 154 then some ty153 else some ty154)))) else (bif Nat.blt t 160 then (bif Nat.blt t 157 then (bif Nat.blt t 156 then some ty155 else some ty156) else (bif Nat.blt t 158 then some ty157 else (bif Nat.blt t 159 then some ty158 else some ty159))) else (bif Nat.blt t 163 then (bif Nat.blt t 161 then some ty160 else (bif Nat.blt t 162 then some ty161 else some ty162)) else (bif Nat.blt t 164 then some ty163 else (bif Nat.blt t 165 then some ty164 else some ty165)))))))) else none
theorem ti_all : (List.range 166).map TI = (List.range 166).map (tyOf Go.Proofs.Try.prog) := by kernel_rfl
theorem tok : TOk Go.Proofs.Try.prog TI := by
  intro t i h
  by_cases c : t < 166
  · have h1 : ((List.range 166).map TI)[t]? = ((List.range 166).map (tyOf Go.Proofs.Try.prog))[t]? := by rw [ti_all]
    rw [List.getElem?_map, List.getElem?_map, List.getElem?_range c] at h1
    simp only [Option.map_some, Option.some.injEq] at h1
    rw [← h1, h]
  · have h2 : Nat.blt t 166 = false := by
      rw [Bool.eq_false_iff]
      intro hc
      exact c (Nat.blt_eq.mp hc)
    unfold TI at h
    rw [h2] at h
    cases h
theorem mix : Go.Proofs.Try.prog.follows .mixedOrders = true := by kernel_rfl
structure Tac where
  op : Int
  d : Int
  a : Int
  b : Int
  k : Int
  base : Int
  size : Int
  n : Int
  deriving DecidableEq, Repr
structure Block where
  ins : List Tac
  fin : Int
  v : Int
  to : Int
  els : Int
  deriving DecidableEq, Repr
structure BFunc where
  regs : Int
  blocks : List Block
  deriving DecidableEq, Repr
structure Blocks where
  words : Int
  funcs : List BFunc
  deriving DecidableEq, Repr
structure Cert where
  same : List (List Bool)
  deriving DecidableEq, Repr
def Tac.cells (t : Tac) : List AV := [.int .i64 t.op, .int .i64 t.d, .int .i64 t.a, .int .i64 t.b, .int .i64 t.k, .int .i64 t.base, .int .i64 t.size, .int .u32 t.n]
def insAV (l : List Tac) : AV := .lst false (l.map Tac.cells)
def Block.cells (b : Block) : List AV := [insAV b.ins, .int .i64 b.fin, .int .i64 b.v, .int .i64 b.to, .int .i64 b.els]
def blocksAV (l : List Block) : AV := .lst false (l.map Block.cells)
def BFunc.cells (f : BFunc) : List AV := [.int .i64 f.regs, blocksAV f.blocks]
def funcsAV (l : List BFunc) : AV := .lst false (l.map BFunc.cells)
def Blocks.cells (b : Blocks) : List AV := [.int .i64 b.words, funcsAV b.funcs]
def boolsAV (l : List Bool) : AV := .lst false (l.map fun b => [.bool b])
def intsAV (l : List Int) : AV := .lst false (l.map fun b => [.int .i64 b])
def rowsAV (l : List (List Bool)) : AV := .lst false (l.map fun r => [boolsAV r])
def Cert.cells (c : Cert) : List AV := [rowsAV c.same]
theorem idx_map {α : Type} {l : List α} {f : α → List AV} {k : Nat} {x : α} (h : l[k]? = some x) : (l.map f)[((k : Nat) : Int).toNat]? = some (f x) := by
  rw [Int.toNat_natCast, List.getElem?_map, h]; rfl
theorem get_of_lt {α : Type} {l : List α} {k : Nat} (h : k < l.length) : ∃ x, l[k]? = some x := ⟨l[k], List.getElem?_eq_getElem h⟩
theorem take_succ_eq {α : Type} {l : List α} {k : Nat} {x : α} (h : l[k]? = some x) : l.take (k + 1) = l.take k ++ [x] := by
  rw [List.take_add_one, h]; rfl
def fitsIns (l : List Tac) : Prop := l.length ≤ maxLen
def Block.fits (x : Block) : Prop := x.ins.length ≤ maxLen
def fitsBlocks (l : List Block) : Prop := l.length ≤ maxLen ∧ ∀ x ∈ l, x.fits
def BFunc.fits (f : BFunc) : Prop := fitsBlocks f.blocks
def fitsFuncs (l : List BFunc) : Prop := l.length ≤ maxLen ∧ ∀ f ∈ l, f.fits
def Blocks.fits (b : Blocks) : Prop := fitsFuncs b.funcs
theorem rel_list {α : Type} {l : List α} {f : α → List AV} {H : Know} {ι : Lay} {ex : Bool} {v : Value} (h : Rel H ι (.lst ex (l.map f)) v) :
    l.length ≤ maxLen ∧ ∀ x ∈ l, ∀ (j : Nat) (y : AV), (f x)[j]? = some y → ∃ u, Rel H noLay y u := by
  refine ⟨by have := lst_max h; simpa using this, fun x hx j y hy => ?_⟩
  obtain ⟨i, hi⟩ := List.mem_iff_getElem?.1 hx
  rcases h.lst_inv with ⟨h0, _⟩ | ⟨_, b, off, cap, sz, c, vals, _, _, _, _, hr, _⟩
  · rw [List.map_eq_nil_iff] at h0; subst h0; simp at hi
  · exact ⟨_, hr i (f x) j y (by rw [List.getElem?_map, hi]; rfl) hy⟩
theorem rel_ins {l : List Tac} {H : Know} {ι : Lay} {v : Value} (h : Rel H ι (insAV l) v) : fitsIns l := (rel_list h).1
theorem rel_blocks {l : List Block} {H : Know} {ι : Lay} {v : Value} (h : Rel H ι (blocksAV l) v) : fitsBlocks l := by
  obtain ⟨h1, h2⟩ := rel_list h
  exact ⟨h1, fun x hx => by obtain ⟨u, hu⟩ := h2 x hx 0 _ rfl; exact rel_ins hu⟩
theorem rel_part {cs : List AV} {H : Know} {ι : Lay} {v : Value} (h : Rel H ι (.agg cs) v) {j : Nat} {x : AV} (hj : cs[j]? = some x) : ∃ u, Rel H ι x u := by
  obtain ⟨us, _, hl, hr⟩ := h.agg_inv
  have hlt : j < us.size := by rw [← hl]; exact (List.getElem?_eq_some_iff.1 hj).1
  obtain ⟨u, hu⟩ := getElem?_some_of_lt hlt
  exact ⟨u, hr j x u hj hu⟩
theorem rel_bfunc {f : BFunc} {H : Know} {ι : Lay} {v : Value} (h : Rel H ι (.agg f.cells) v) : f.fits := by
  obtain ⟨u, hu⟩ := rel_part h (j := 1) rfl
  exact rel_blocks hu
theorem rel_funcs {l : List BFunc} {H : Know} {ι : Lay} {v : Value} (h : Rel H ι (funcsAV l) v) : fitsFuncs l := by
  obtain ⟨h1, h2⟩ := rel_list h
  exact ⟨h1, fun x hx => by obtain ⟨u, hu⟩ := h2 x hx 1 _ rfl; exact rel_blocks hu⟩
theorem rel_prog {b : Blocks} {H : Know} {ι : Lay} {v : Value} (h : Rel H ι (.agg b.cells) v) : b.fits := by
  obtain ⟨u, hu⟩ := rel_part h (j := 1) rfl
  exact rel_funcs hu
theorem AGo.slot {P : Program} {s : AState} {Q : Exit → AState → Prop} {c : Code} (t : Nat) {x : AV} {φ : Prop} (ht : s.env t = some x) (hf : ∀ H ι v, Rel H ι x v → φ) (h : φ → AGo P c s Q) : AGo P c s Q :=
  AGo.fact (fun H ι a w hs => by obtain ⟨v, _, hv⟩ := hs.env t x ht; exact hf H ι v hv) h
theorem lt_of_idx {α : Type} {β : Type} {l : List α} {f : α → β} {k : Nat} (h : decide ((k : Int) < (((l.map f).length : Nat) : Int)) = true) : k < l.length := by simpa using h
theorem ge_of_idx {α : Type} {β : Type} {l : List α} {f : α → β} {k : Nat} (h : decide ((k : Int) < (((l.map f).length : Nat) : Int)) = false) : l.length ≤ k := by simpa using h
theorem Tac.eqCells (x y : Tac) : Sv.eqCells x.cells y.cells = some (decide (x = y)) := by
  have h : Sv.eqCells x.cells y.cells = some (x.op == y.op && (x.d == y.d && (x.a == y.a && (x.b == y.b && (x.k == y.k && (x.base == y.base && (x.size == y.size && (x.n == y.n && true)))))))) := rfl
  rw [h]
  congr 1
  obtain ⟨a1, a2, a3, a4, a5, a6, a7, a8⟩ := x
  obtain ⟨b1, b2, b3, b4, b5, b6, b7, b8⟩ := y
  rw [Bool.eq_iff_iff]
  simp [Tac.mk.injEq]
def setsOp (op : Int) : Bool := op == 1 || (op == 2 || (op == 3 || (op == 4 || (op == 6 || op == 8))))
def Tac.sets (t : Tac) : Int := bif setsOp t.op then t.d else -1
def use1 (op : Int) : Bool := op == 2 || (op == 5 || (op == 6 || op == 9))
def use2 (op : Int) : Bool := op == 3 || op == 7
def Tac.uses (t : Tac) : List Int := bif use1 t.op then [t.a] else bif use2 t.op then [t.a, t.b] else []
theorem uses_len (t : Tac) : t.uses.length ≤ 2 := by
  unfold Tac.uses
  cases use1 t.op <;> cases use2 t.op <;> simp
def within (i n : Int) : Bool := decide (0 ≤ i) && decide (i < n)
theorem use12 (op : Int) : (use1 op && use2 op) = false := by
  rw [Bool.eq_false_iff]; intro h
  simp only [use1, use2, Bool.and_eq_true, Bool.or_eq_true, beq_iff_eq] at h
  omega
def baseOp (op : Int) : Bool := op == 4 || op == 5
def arrOp (op : Int) : Bool := op == 6 || op == 7
def Tac.want (t : Tac) : Tac where
  op := t.op
  d := bif setsOp t.op then t.d else 0
  a := bif use1 t.op || use2 t.op then t.a else 0
  b := bif use2 t.op then t.b else 0
  k := bif t.op == 3 then t.k else 0
  base := bif baseOp t.op || (arrOp t.op || t.op == 10) then t.base else 0
  size := bif arrOp t.op then t.size else 0
  n := bif t.op == 1 then t.n else 0
def Tac.same (x y : Tac) : Bool := x.op == y.op && (x.d == y.d && (x.a == y.a && (x.b == y.b && (x.k == y.k && (x.base == y.base && (x.size == y.size && (x.n == y.n && true)))))))
theorem Tac.same_iff (x y : Tac) : x.same y = true ↔ x = y := by
  have h1 := Tac.eqCells x y
  have h2 : Sv.eqCells x.cells y.cells = some (x.same y) := rfl
  rw [h1] at h2
  have h3 : decide (x = y) = x.same y := by simpa using h2
  rw [← h3, decide_eq_true_iff]
def Tac.rest (t : Tac) (f words : Int) : Bool :=
  bif t.op == 3 then decide (4 ≤ t.k) && decide (t.k ≤ 15)
  else bif baseOp t.op then within t.base words
  else bif arrOp t.op then decide (1 ≤ t.size) && (decide (t.size ≤ 4096) && (decide (0 ≤ t.base) && decide (t.base ≤ words - t.size)))
  else bif t.op == 10 then within t.base f
  else true
def Tac.fits (t : Tac) (f regs words : Int) : Bool :=
  decide (1 ≤ t.op) && (decide (t.op ≤ 10) && ((!setsOp t.op || within t.d regs) && (t.uses.all (fun r => within r regs) && (t.rest f words && t.same t.want))))
theorem sets_pos {t : Tac} (h : decide (t.sets ≥ 0) = true) : setsOp t.op = true := by
  unfold Tac.sets at h
  cases e : setsOp t.op with
  | true => rfl
  | false => rw [e] at h; simp at h
theorem fits_op {t : Tac} {f regs words : Int} (h : ¬ (1 ≤ t.op ∧ t.op ≤ 10)) : t.fits f regs words = false := by
  rw [Bool.eq_false_iff]
  intro h2
  simp only [Tac.fits, Bool.and_eq_true, decide_eq_true_eq] at h2
  exact h ⟨h2.1, h2.2.1⟩
theorem fits_d {t : Tac} {f regs words : Int} (h : setsOp t.op = true) (h2 : within t.d regs = false) : t.fits f regs words = false := by
  simp [Tac.fits, h, h2]
theorem fits_use {t : Tac} {f regs words : Int} (h : t.uses.all (fun r => within r regs) = false) : t.fits f regs words = false := by
  simp only [Tac.fits, h, Bool.false_and, Bool.and_false]
theorem fits_rest {t : Tac} {f regs words : Int} (h : t.rest f words = false) : t.fits f regs words = false := by
  simp only [Tac.fits, h, Bool.false_and, Bool.and_false]
theorem fits_same {t : Tac} {f regs words : Int} (h1 : decide (t.op < 1) = false) (h2 : decide (t.op > 10) = false) (hd : (!setsOp t.op || within t.d regs) = true) (hu : t.uses.all (fun r => within r regs) = true) (hr : t.rest f words = true) : t.fits f regs words = t.same t.want := by
  have h1' : decide (1 ≤ t.op) = true := by simp at h1 ⊢; omega
  have h2' : decide (t.op ≤ 10) = true := by simp at h2 ⊢; omega
  simp only [Tac.fits, h1', h2', hd, hu, hr, Bool.true_and]
def Block.ends (b : Block) (blocks regs : Int) : Bool :=
  bif b.fin == 1 then within b.to blocks && (b.v == 0 && b.els == 0)
  else bif b.fin == 2 then within b.to blocks && (within b.els blocks && within b.v regs)
  else b.fin == 3 && (b.v == 0 && (b.to == 0 && b.els == 0))
def Block.ok (x : Block) (blocks regs number words : Int) : Bool := x.ends blocks regs && x.ins.all (fun t => t.fits number regs words)
def BFunc.one (f : BFunc) (number words : Int) : Bool :=
  decide (0 ≤ f.regs) && (decide (f.regs ≤ 4000) && (!f.blocks.isEmpty && f.blocks.all (fun x => x.ok f.blocks.length f.regs number words)))
def Blocks.right (b : Blocks) : Bool :=
  decide (0 ≤ b.words) && (decide (b.words ≤ 1048576) && (!b.funcs.isEmpty && b.funcs.zipIdx.all (fun p => p.1.one (p.2 : Int) b.words)))
def BFunc.low (f : BFunc) : Bool := decide (f.regs ≤ 60) && decide (f.blocks.length ≤ 40)
theorem one_bad {f : BFunc} {number words : Int} (h : ¬ (0 ≤ f.regs ∧ f.regs ≤ 4000 ∧ f.blocks.length ≠ 0)) : f.one number words = false := by
  rw [Bool.eq_false_iff]; intro h2
  simp only [BFunc.one, Bool.and_eq_true, decide_eq_true_eq, Bool.not_eq_true', List.isEmpty_eq_false_iff] at h2
  exact h ⟨h2.1, h2.2.1, fun e => h2.2.2.1 (List.length_eq_zero_iff.1 e)⟩
theorem one_all {f : BFunc} {number words : Int} (h1 : 0 ≤ f.regs) (h2 : f.regs ≤ 4000) (h3 : f.blocks.length ≠ 0) : f.one number words = f.blocks.all (fun x => x.ok f.blocks.length f.regs number words) := by
  have h3' : f.blocks.isEmpty = false := by
    rw [List.isEmpty_eq_false_iff]; intro e; rw [e] at h3; exact h3 rfl
  simp only [BFunc.one, decide_eq_true h1, decide_eq_true h2, h3', Bool.not_false, Bool.true_and]
theorem right_bad {b : Blocks} (h : ¬ (0 ≤ b.words ∧ b.words ≤ 1048576 ∧ b.funcs.length ≠ 0)) : b.right = false := by
  rw [Bool.eq_false_iff]; intro h2
  simp only [Blocks.right, Bool.and_eq_true, decide_eq_true_eq, Bool.not_eq_true', List.isEmpty_eq_false_iff] at h2
  exact h ⟨h2.1, h2.2.1, fun e => h2.2.2.1 (List.length_eq_zero_iff.1 e)⟩
theorem right_all {b : Blocks} (h1 : 0 ≤ b.words) (h2 : b.words ≤ 1048576) (h3 : b.funcs.length ≠ 0) : b.right = b.funcs.zipIdx.all (fun p => p.1.one (p.2 : Int) b.words) := by
  have h3' : b.funcs.isEmpty = false := by
    rw [List.isEmpty_eq_false_iff]; intro e; rw [e] at h3; exact h3 rfl
  simp only [Blocks.right, decide_eq_true h1, decide_eq_true h2, h3', Bool.not_false, Bool.true_and]
theorem all_succ {α : Type} {l : List α} {p : α → Bool} {k : Nat} {x : α} (hx : l[k]? = some x) (h : (l.take k).all p = true) (hp : p x = true) : (l.take (k + 1)).all p = true := by
  rw [take_succ_eq hx, List.all_append, h]; simp [hp]
theorem all_bad {α : Type} {l : List α} {p : α → Bool} {k : Nat} {x : α} (hx : l[k]? = some x) (hp : p x = false) : l.all p = false := by
  rw [Bool.eq_false_iff]
  intro h
  rw [List.all_eq_true.1 h x (List.mem_of_getElem? hx)] at hp
  cases hp
theorem all_end {α : Type} {l : List α} {p : α → Bool} {k : Nat} (h : (l.take k).all p = true) (hk : l.length ≤ k) : l.all p = true := by
  rwa [List.take_of_length_le hk] at h
theorem sum_succ {α : Type} {l : List α} {p : α → Nat} {k : Nat} {x : α} (hx : l[k]? = some x) : ((l.take (k + 1)).map p).sum = ((l.take k).map p).sum + p x := by
  rw [take_succ_eq hx, List.map_append, List.sum_append]; simp
theorem zipIdx_get {α : Type} {l : List α} {k : Nat} {x : α} (hx : l[k]? = some x) : l.zipIdx[k]? = some (x, k) := by
  rw [List.getElem?_zipIdx, hx]; simp
theorem Cert.ext' {c d : Cert} (h : c.same = d.same) : c = d := by cases c; cases d; simp_all
theorem BFunc.ext' {f g : BFunc} (h1 : f.regs = g.regs) (h2 : f.blocks = g.blocks) : f = g := by cases f; cases g; simp_all
def wdivide (op a b : Int) : Int × Int := bif b == 0 then (0, 14) else bif op == 7 then (IntKind.u32.wrap (a.tdiv b), 0) else (a.tmod b, 0)
def wshift (op a b : Int) : Int := bif decide (b > 31) then 0 else bif op == 12 then IntKind.u32.wrap (a * 2 ^ (min b.toNat IntKind.u32.bits)) else a.fdiv (2 ^ (min b.toNat IntKind.u32.bits))
def wcompare (op a b : Int) : Int := bif (op == 14 && decide (a < b)) || (op == 15 && a == b) then 1 else 0
def wapp (op a b : Int) : Int × Int :=
  bif op == 4 then (IntKind.u32.wrap (a + b), 0)
  else bif op == 5 then (IntKind.u32.wrap (a - b), 0)
  else bif op == 6 then (IntKind.u32.wrap (a * b), 0)
  else bif op == 7 || op == 8 then wdivide op a b
  else bif op == 9 then (IntKind.u32.wrap ((BitVec.ofInt IntKind.u32.bits a &&& BitVec.ofInt IntKind.u32.bits b).toNat), 0)
  else bif op == 10 then (IntKind.u32.wrap ((BitVec.ofInt IntKind.u32.bits a ||| BitVec.ofInt IntKind.u32.bits b).toNat), 0)
  else bif op == 11 then (IntKind.u32.wrap ((BitVec.ofInt IntKind.u32.bits a ^^^ BitVec.ofInt IntKind.u32.bits b).toNat), 0)
  else bif op == 12 || op == 13 then (wshift op a b, 0)
  else bif op == 14 || op == 15 then (wcompare op a b, 0)
  else (0, 1)
def wpair (p : Int × Int) : AV := .tup [.int .u32 p.1, .int .i64 p.2]
def isW (n : Int) : Prop := 0 ≤ n ∧ n < 4294967296
theorem isW_wrap (n : Int) : isW (IntKind.u32.wrap n) := by
  rw [IntKind.wrap_u32]; constructor <;> omega
theorem wapp_word {op a b : Int} (ha : isW a) (hb : isW b) : isW (wapp op a b).1 := by
  unfold wapp
  cases op == 4 <;> simp only [cond_true, cond_false] <;> try exact isW_wrap _
  cases op == 5 <;> simp only [cond_true, cond_false] <;> try exact isW_wrap _
  cases op == 6 <;> simp only [cond_true, cond_false] <;> try exact isW_wrap _
  cases op == 7 || op == 8
  · simp only [cond_false]
    cases op == 9 <;> simp only [cond_true, cond_false] <;> try exact isW_wrap _
    cases op == 10 <;> simp only [cond_true, cond_false] <;> try exact isW_wrap _
    cases op == 11 <;> simp only [cond_true, cond_false] <;> try exact isW_wrap _
    cases op == 12 || op == 13
    · simp only [cond_false]
      cases op == 14 || op == 15
      · simp only [cond_false]; constructor <;> omega
      · simp only [cond_true, wcompare]
        cases (op == 14 && decide (a < b)) || (op == 15 && a == b) <;> simp only [cond_true, cond_false] <;> constructor <;> omega
    · simp only [cond_true, wshift]
      cases decide (b > 31) <;> simp only [cond_true, cond_false]
      · cases op == 12 <;> simp only [cond_true, cond_false]
        · have hp : (0 : Int) < 2 ^ (min b.toNat IntKind.u32.bits) := Int.pow_pos (by omega)
          rw [Int.fdiv_eq_ediv_of_nonneg _ (Int.le_of_lt hp)]
          refine ⟨Int.ediv_nonneg ha.1 (Int.le_of_lt hp), ?_⟩
          have := Int.ediv_le_self (2 ^ (min b.toNat IntKind.u32.bits)) ha.1
          have := ha.2
          omega
        · exact isW_wrap _
      · constructor <;> omega
  · simp only [cond_true, wdivide]
    cases hz : b == 0 <;> simp only [cond_true, cond_false]
    · cases op == 7 <;> simp only [cond_true, cond_false]
      · rw [Int.tmod_eq_emod_of_nonneg ha.1]
        have hb0 : b ≠ 0 := by simpa using hz
        refine ⟨Int.emod_nonneg _ hb0, ?_⟩
        have := Int.emod_lt_of_pos a (show 0 < b by have := hb.1; omega)
        have := hb.2
        omega
      · exact isW_wrap _
    · constructor <;> omega
theorem isW_zero : isW 0 := by constructor <;> omega
section
variable {P : Program} {T : Nat → Option TyI} {o : Oper} {e : AEnv} {h : AHeap}
end
def insW (l : List Tac) : Prop := ∀ t ∈ l, isW t.n
def BFunc.all (f : BFunc) : Cert := ⟨List.replicate f.blocks.length (List.replicate f.regs.toNat true)⟩
end Go.Proofs.Ytmfihmkopmgelaa.Sv

namespace Go.Proofs.Ytmfihmkopmgelaa.Sv
open Go Go.ChangeShapes Go.WideShapes Go.ChangeAt Go.RowKit
def isI (n : Int) : Prop := -9223372036854775808 ≤ n ∧ n ≤ 9223372036854775807
theorem wf_i64 {n : Int} (h : (Lit.int .i64 n).wf = true) : isI n := by
  simpa [Lit.wf, IntKind.min, IntKind.max, IntKind.signed, IntKind.bits, isI] using h
theorem wf_u32 {n : Int} (h : (Lit.int .u32 n).wf = true) : isW n := by
  simp [Lit.wf, IntKind.min, IntKind.max, IntKind.signed, IntKind.bits] at h
  exact ⟨h.1, by omega⟩
structure Tac.Ok (t : Tac) : Prop where
  op : isI t.op
  d : isI t.d
  a : isI t.a
  b : isI t.b
  k : isI t.k
  base : isI t.base
  size : isI t.size
  n : isW t.n
structure Block.Ok (x : Block) : Prop where
  len : x.ins.length * 64 ≤ reachBytes
  ins : ∀ t ∈ x.ins, t.Ok
  fin : isI x.fin
  v : isI x.v
  to : isI x.to
  els : isI x.els
structure BFunc.Ok (f : BFunc) : Prop where
  regs : isI f.regs
  len : f.blocks.length * 56 ≤ reachBytes
  blocks : ∀ x ∈ f.blocks, x.Ok
structure Blocks.Ok (b : Blocks) : Prop where
  words : isI b.words
  len : b.funcs.length * 32 ≤ reachBytes
  funcs : ∀ f ∈ b.funcs, f.Ok
theorem BFunc.Ok.insW {f : BFunc} (h : f.Ok) {x : Block} (hx : x ∈ f.blocks) : insW x.ins := fun t ht => ((h.blocks x hx).ins t ht).n
section
variable {H : Type} {enc : TypeId × Value → H} {P : Program} {W : World} {T : Nat → Option TyI}
theorem app1 {cs : List Value} {off u : Nat} {xs ys : List AV} {j : TyI} (hT : TOk P T) (hj : T u = some j) {n : Nat} (hn : j.size = n) (h1 : Reads W (cs.take off) xs) (h2 : Reads W ((cs.drop off).take (P.cellsOf u)) ys) (ho : off ≤ cs.length) : Reads W (cs.take (off + n)) (xs ++ ys) := by
  rw [cellsOf_of hT hj, hn] at h2
  exact h1.app h2 ho
end
theorem right_spec {b : Blocks} (h : b.right = true) : 0 ≤ b.words ∧ b.words ≤ 1048576 ∧ b.funcs ≠ [] ∧ ∀ (i : Nat) (f : BFunc), b.funcs[i]? = some f → f.one (i : Int) b.words = true := by
  simp only [Blocks.right, Bool.and_eq_true, decide_eq_true_eq, Bool.not_eq_true', List.isEmpty_eq_false_iff] at h
  exact ⟨h.1, h.2.1, h.2.2.1, fun i f hf => List.all_eq_true.1 h.2.2.2 (f, i) (List.mem_of_getElem? (zipIdx_get hf))⟩
theorem one_spec {f : BFunc} {i w : Int} (h : f.one i w = true) : 0 ≤ f.regs ∧ f.regs ≤ 4000 ∧ f.blocks ≠ [] ∧ ∀ x ∈ f.blocks, x.ends f.blocks.length f.regs = true ∧ ∀ t ∈ x.ins, t.fits i f.regs w = true := by
  simp only [BFunc.one, Bool.and_eq_true, decide_eq_true_eq, Bool.not_eq_true', List.isEmpty_eq_false_iff] at h
  refine ⟨h.1, h.2.1, h.2.2.1, fun x hx => ?_⟩
  have := List.all_eq_true.1 h.2.2.2 x hx
  simp only [Block.ok, Bool.and_eq_true] at this
  exact ⟨this.1, fun t ht => List.all_eq_true.1 this.2 t ht⟩
theorem le_sum {α : Type} {p : α → Nat} : ∀ {l : List α} {x : α}, x ∈ l → p x ≤ (l.map p).sum
  | y :: l, x, h => by
    rcases List.mem_cons.1 h with rfl | h
    · simp
    · have := le_sum (p := p) h; simp; omega
end Go.Proofs.Ytmfihmkopmgelaa.Sv

namespace Go.Proofs.Ytmfihmkopmgelaa
open Go.ChangeShapes Go.WideShapes Go.ChangeAt Go.RowKit Sv
theorem own' : ownKnob Try.prog.godebug = none := by kernel_rfl
theorem laidOut' : laidOutB Try.prog = true := by kernel_rfl
theorem bool' : Try.prog.underlying 4 = some .bool := by kernel_rfl
section
variable {H : Type} {enc : TypeId × Value → H} {W : World}
end
end Go.Proofs.Ytmfihmkopmgelaa

namespace Go.Proofs.Ytmfihmkopmgelaa
open Go.ChangeShapes Go.WideShapes Go.ChangeAt Go.RowKit Sv
theorem okWide_cellS {P : Program} {W : World} {T : Nat → Option TyI} {t b0 : Nat} {v : Value} {i : TyI} (hT : TOk P T) (hi : T t = some i) (hk : i.k = .string) (h : Value.okWide P W .any b0 t v) : ∀ cs, v ≠ .agg cs := by
  obtain ⟨info, d, e1, e2, e3, e4, e5, e6⟩ := tyOf_spec (hT _ _ hi)
  have hd := tk_string (P := P) (d := d) (e3 ▸ hk)
  subst hd
  obtain ⟨s, rfl⟩ := okWide_string e2 h
  intro cs h
  cases h
section
variable {H : Type} {enc : TypeId × Value → H} {W : World}
theorem decStr : Dec enc Try.prog W 9 (fun s : ByteArray => [.str s]) (fun s => s.size ≤ maxLen ∧ s.size ≤ reachBytes) := Dec.string' tok rfl rfl
end
end Go.Proofs.Ytmfihmkopmgelaa

namespace Go.Proofs.Ytmfihmkopmgelaa.Sv
open Go Go.ChangeShapes Go.WideShapes Go.ChangeAt Go.RowKit
section
variable {H : Type}
def DecB (m : Nat) (enc : TypeId × Value → H) (P : Program) (W : World) (t : TypeId) {α : Type} (f : α → List AV) (Q : α → Prop) : Prop :=
  ∀ (fuel : Nat), fuel ≤ m → ∀ (cs : List Value) (x : DataW H × List MemPlace), DataW.trod enc P W 0 (fun _ => true) true fuel t cs = some x → (x.1.weights P t).all (· ≤ reachBytes) = true → ∃ a, Reads W cs (f a) ∧ Q a
variable {enc : TypeId × Value → H} {P : Program} {W : World} {t e : TypeId}
theorem Dec.bound {α : Type} {f : α → List AV} {Q : α → Prop} (h : Dec enc P W t f Q) (m : Nat) : DecB m enc P W t f Q := fun fuel _ => h fuel
theorem DecB.dec {α : Type} {f : α → List AV} {Q : α → Prop} (h : ∀ m, DecB m enc P W t f Q) : Dec enc P W t f Q := fun fuel => h fuel fuel (Nat.le_refl _)
theorem DecB.less {m m' : Nat} {α : Type} {f : α → List AV} {Q : α → Prop} (h : DecB m enc P W t f Q) (hm : m' ≤ m) : DecB m' enc P W t f Q := fun fuel hf => h fuel (by omega)
theorem DecB.slice {m : Nat} {α : Type} {f : α → List AV} {Q : α → Prop} (ht : P.underlying t = some (.slice e)) (hc : 0 < P.cellsOf e) (he : DecB m enc P W e f Q) :
    DecB (m + 1) enc P W t (fun l : List α => [.lst false (l.map f)]) (fun l => l.length * P.bytesOf e ≤ reachBytes ∧ ∀ a ∈ l, Q a) := fun fuel hm cs x h hw => by
  rcases DataW.trod_slice ht h with ⟨rfl, rfl⟩ | ⟨a, len, cap, elems, rest, n, rfl, rfl, rfl, hb, hl, hm', hlen, hel, hsp, hns⟩
  · exact ⟨[], .one (.lst0 _ _ _ _ (fun h => by cases h) (Nat.zero_le _) (fun _ => rfl) trivial) rfl, by simp, fun a h => by cases h⟩
  simp only [DataW.weights, ht, List.all_cons, List.all_append, Bool.and_eq_true, decide_eq_true_eq, List.length_map] at hw
  obtain ⟨w1, w2, w3⟩ := hw
  have key : ∀ i, i < len → ∃ y, ∃ cs', W.cells? 0 (a.add (i * P.cellsOf e)) (P.cellsOf e) = some cs' ∧ Reads W cs' (f y) ∧ Q y := fun i hi => by
    have h1 := hel i hi
    have hlt : i < elems.length := by omega
    rw [List.getElem?_eq_getElem hlt] at h1
    rw [Option.bind_eq_some_iff] at h1
    obtain ⟨cs', c1, c2⟩ := h1
    obtain ⟨y, y1, y2⟩ := he _ (by omega) _ _ c2 (weightsAll_get w2 (i := i) (by rw [List.getElem?_map, List.getElem?_eq_getElem hlt]; rfl))
    exact ⟨y, cs', c1, y1, y2⟩
  obtain ⟨l, l1, l2⟩ := exists_list len key
  have hQ : ∀ y ∈ l, Q y := fun y hy => by
    obtain ⟨i, hi⟩ := List.mem_iff_getElem?.1 hy
    obtain ⟨cs', _, _, q⟩ := l2 i y hi
    exact q
  have hbytes : l.length * P.bytesOf e ≤ reachBytes := by
    refine Nat.le_trans (Nat.mul_le_mul_right _ ?_) w1
    omega
  refine ⟨l, .one ?_ rfl, hbytes, hQ⟩
  by_cases h0 : len = 0
  · have : l = [] := List.length_eq_zero_iff.1 (by omega)
    subst this; subst h0
    exact .lst0 _ _ _ _ (fun h => by cases h) hm' (fun h => by cases h) trivial
  · obtain ⟨y0, cs0, k1, k2, k3⟩ := key 0 (by omega)
    obtain ⟨_, m1, m2⟩ := World.cells?_some k1
    have hz : cs0[0]? = some cs0[0] := List.getElem?_eq_getElem (by omega)
    have hcell := m2 0 hc
    rw [hz] at hcell
    have ha0 : (a.add (0 * P.cellsOf e)).add 0 = a := by simp [Addr.add]
    rw [ha0] at hcell
    obtain ⟨c, hH, hspot, _⟩ := heapKnow_cell hcell
    obtain ⟨ab, ao, asp⟩ := a
    simp only at hspot hH
    subst hspot
    have hsz : ∀ (i : Nat) (xs : List AV), (l.map f)[i]? = some xs → xs.length = P.cellsOf e ∧ ∀ (j : Nat) (x : AV), xs[j]? = some x → ∃ v, c[ao + i * P.cellsOf e + j]? = some v ∧ Rel (heapKnow W) noLay x v ∧ x.cell1 = true := fun i xs hi => by
      rw [List.getElem?_map, Option.map_eq_some_iff] at hi
      obtain ⟨y, y1, rfl⟩ := hi
      obtain ⟨cs', c1, c2, c3⟩ := l2 i y y1
      obtain ⟨_, n1, n2⟩ := World.cells?_some c1
      refine ⟨by rw [c2.1, n1], fun j x hj => ?_⟩
      have hjlt : j < cs'.length := by rw [← c2.1]; exact (List.getElem?_eq_some_iff.1 hj).1
      have h3 := n2 j (by omega)
      rw [List.getElem?_eq_getElem hjlt, add_mk, add_mk] at h3
      obtain ⟨c', e1, _, e3⟩ := heapKnow_cell h3
      simp only at e1 e3
      rw [hH] at e1; cases e1
      obtain ⟨g1, g2⟩ := c2.2 j x _ hj (List.getElem?_eq_getElem hjlt)
      exact ⟨_, e3, g1, g2⟩
    have := Rel.lst (H := heapKnow W) noLay false (l.map f) ab ao cap (P.cellsOf e) c (fun i j => (c[ao + i * P.cellsOf e + j]?).getD undef) (fun hh => by rw [List.map_eq_nil_iff] at hh; subst hh; simp at l1; omega) hH
      (fun i xs hi => (hsz i xs hi).1) (fun i xs j x hi hj => by obtain ⟨v, v1, _⟩ := (hsz i xs hi).2 j x hj; rw [v1]; rfl)
      (fun i xs j x hi hj => by obtain ⟨v, v1, v2, _⟩ := (hsz i xs hi).2 j x hj; rw [v1]; exact v2) (fun i xs j x hi hj => by obtain ⟨v, v1, v2, v3⟩ := (hsz i xs hi).2 j x hj; exact v3) (fun h => by cases h) (by simp [l1]; exact hl) hm'
    rw [List.length_map, l1] at this
    exact this
variable {T : Nat → Option TyI}
theorem DecB.slice' {m : Nat} {α : Type} {f : α → List AV} {Q : α → Prop} {i j : TyI} {u : Nat} (hT : TOk P T) (hi : T t = some i) (hk : i.k = .slice u) (hj : T u = some j) (hp : 0 < j.size) (he : DecB m enc P W u f Q) :
    DecB (m + 1) enc P W t (fun l : List α => [.lst false (l.map f)]) (fun l => l.length * j.bytes ≤ reachBytes ∧ ∀ a ∈ l, Q a) := by
  obtain ⟨info, d, e1, e2, e3, e4, e5, e6⟩ := tyOf_spec (hT _ _ hi)
  have hd := tk_slice (P := P) (d := d) (e3 ▸ hk)
  subst hd
  have := DecB.slice (m := m) (enc := enc) (W := W) e2 (by rw [cellsOf_of hT hj]; exact hp) he
  rwa [bytesOf_of hT hj] at this
def PartsB (m : Nat) (enc : TypeId × Value → H) (P : Program) (W : World) (T : Nat → Option TyI) (cs : List Value) (fs : List (Nat × Nat)) : Prop :=
  ∀ (i off u : Nat), fs[i]? = some (off, u) → ∀ {α : Type} {f : α → List AV} {Q : α → Prop}, DecB m enc P W u f Q → ∃ a, Reads W ((cs.drop off).take (P.cellsOf u)) (f a) ∧ Q a
theorem struct_partsB {m : Nat} {i : TyI} {fs : List (Nat × Nat)} (hT : TOk P T) (hi : T t = some i) (hk : i.k = .struct fs) {fuel : Nat} (hm : fuel ≤ m + 1) {cs : List Value} {x : DataW H × List MemPlace} (h : DataW.trod enc P W 0 (fun _ => true) true fuel t cs = some x) (hw : (x.1.weights P t).all (· ≤ reachBytes) = true) :
    cs.length = i.size ∧ PartsB m enc P W T cs fs := by
  obtain ⟨info, d, e1, e2, e3, e4, e5, e6⟩ := tyOf_spec (hT _ _ hi)
  obtain ⟨A, rfl, rfl, _⟩ := tk_struct (P := P) (d := d) (e3 ▸ hk)
  obtain ⟨xs, n, rfl, rfl, hl, hxl, hx⟩ := DataW.trod_struct e2 h
  refine ⟨by rw [hl, cellsOf_of hT hi], fun j off u hj α f Q hd => ?_⟩
  rw [List.getElem?_map, Option.map_eq_some_iff] at hj
  obtain ⟨F, hF, hF2⟩ := hj
  simp only [Prod.mk.injEq] at hF2
  obtain ⟨rfl, rfl⟩ := hF2
  have hFa : A[j]? = some F := by simpa using hF
  have hjlt : j < xs.length := by rw [hxl]; exact (Array.getElem?_eq_some_iff.1 hFa).1
  have h1 := hx j F hFa
  rw [List.getElem?_eq_getElem hjlt] at h1
  simp only [DataW.weights, e2] at hw
  exact hd _ (by omega) _ _ h1 (weightsEach_get hw (i := j) (by rw [List.getElem?_map, hF]; rfl) (by rw [List.getElem?_map, List.getElem?_eq_getElem hjlt]; rfl))
end
end Go.Proofs.Ytmfihmkopmgelaa.Sv

namespace Go.Proofs.Ytmfihmkopmgelaa.Sv
open Go
def valB : List Nat → Nat
  | [] => 0
  | b :: r => b + 2 * valB r
theorem valB_testBit : ∀ (l : List Nat) (j : Nat), (∀ b ∈ l, b < 2) → (valB l).testBit j = ((l[j]?).getD 0 == 1)
  | [], j, _ => by simp [valB]
  | b :: r, 0, h => by
    have hb := h b (by simp)
    simp only [valB, List.getElem?_cons_zero, Option.getD_some, Nat.testBit_zero]
    have : (b + 2 * valB r) % 2 = b := by omega
    rw [this]
    rcases (by omega : b = 0 ∨ b = 1) with rfl | rfl <;> rfl
  | b :: r, j + 1, h => by
    have hb := h b (by simp)
    have ih := valB_testBit r j (fun c hc => h c (by simp [hc]))
    simp only [valB, List.getElem?_cons_succ, Nat.testBit_succ]
    have : (b + 2 * valB r) / 2 = valB r := by omega
    rw [this, ih]
theorem valB_lt : ∀ (l : List Nat), (∀ b ∈ l, b < 2) → valB l < 2 ^ l.length
  | [], _ => by simp [valB]
  | b :: r, h => by
    have hb := h b (by simp)
    have ih := valB_lt r (fun c hc => h c (by simp [hc]))
    simp only [valB, List.length_cons, Nat.pow_succ]
    omega
def bitsN (n k : Nat) : List Nat := (List.range k).map fun i => n / 2 ^ i % 2
theorem bitsN_get {n k i : Nat} (h : i < k) : (bitsN n k)[i]? = some (n / 2 ^ i % 2) := by
  simp [bitsN, h]
def bop (op : Int) (x y : Nat) : Nat := bif (x + y == 2 && op != 11) || (!(x + y == 2 && op != 11) && (x + y == 1 && op != 9)) then 1 else 0
def bothN (op : Int) (a b : Nat) : List Nat := (List.range 32).map fun i => bop op (a / 2 ^ i % 2) (b / 2 ^ i % 2)
theorem bop_lt (op : Int) (x y : Nat) : bop op x y < 2 := by
  unfold bop
  cases (x + y == 2 && op != 11) || (!(x + y == 2 && op != 11) && (x + y == 1 && op != 9)) <;> simp
theorem testBit_div (n i : Nat) : n.testBit i = (n / 2 ^ i % 2 == 1) := by
  rw [Nat.testBit_eq_decide_div_mod_eq]
  cases h : decide (n / 2 ^ i % 2 = 1) <;> simp at h ⊢ <;> exact h
theorem bothN_testBit {op : Int} {a b j : Nat} : (valB (bothN op a b)).testBit j = (decide (j < 32) && (bop op (a / 2 ^ j % 2) (b / 2 ^ j % 2) == 1)) := by
  rw [valB_testBit _ _ (fun c hc => by simp only [bothN, List.mem_map] at hc; obtain ⟨i, _, rfl⟩ := hc; exact bop_lt _ _ _)]
  by_cases hj : j < 32
  · simp [bothN, hj]
  · simp [bothN, hj]
theorem both_and {a b : Nat} (ha : a < 2 ^ 32) (hb : b < 2 ^ 32) : valB (bothN 9 a b) = a &&& b := by
  apply Nat.eq_of_testBit_eq
  intro j
  rw [bothN_testBit, Nat.testBit_and, testBit_div a, testBit_div b]
  by_cases hj : j < 32
  · rcases (by omega : a / 2 ^ j % 2 = 0 ∨ a / 2 ^ j % 2 = 1) with h1 | h1 <;> rcases (by omega : b / 2 ^ j % 2 = 0 ∨ b / 2 ^ j % 2 = 1) with h2 | h2 <;> simp [h1, h2, hj, bop]
  · have : a / 2 ^ j = 0 := Nat.div_eq_of_lt (Nat.lt_of_lt_of_le ha (Nat.pow_le_pow_right (by decide) (by omega)))
    simp [hj, this]
theorem both_or {a b : Nat} (ha : a < 2 ^ 32) (hb : b < 2 ^ 32) : valB (bothN 10 a b) = a ||| b := by
  apply Nat.eq_of_testBit_eq
  intro j
  rw [bothN_testBit, Nat.testBit_or, testBit_div a, testBit_div b]
  by_cases hj : j < 32
  · rcases (by omega : a / 2 ^ j % 2 = 0 ∨ a / 2 ^ j % 2 = 1) with h1 | h1 <;> rcases (by omega : b / 2 ^ j % 2 = 0 ∨ b / 2 ^ j % 2 = 1) with h2 | h2 <;> simp [h1, h2, hj, bop]
  · have h1 : a / 2 ^ j = 0 := Nat.div_eq_of_lt (Nat.lt_of_lt_of_le ha (Nat.pow_le_pow_right (by decide) (by omega)))
    have h2 : b / 2 ^ j = 0 := Nat.div_eq_of_lt (Nat.lt_of_lt_of_le hb (Nat.pow_le_pow_right (by decide) (by omega)))
    simp [hj, h1, h2]
theorem both_xor {a b : Nat} (ha : a < 2 ^ 32) (hb : b < 2 ^ 32) : valB (bothN 11 a b) = a ^^^ b := by
  apply Nat.eq_of_testBit_eq
  intro j
  rw [bothN_testBit, Nat.testBit_xor, testBit_div a, testBit_div b]
  by_cases hj : j < 32
  · rcases (by omega : a / 2 ^ j % 2 = 0 ∨ a / 2 ^ j % 2 = 1) with h1 | h1 <;> rcases (by omega : b / 2 ^ j % 2 = 0 ∨ b / 2 ^ j % 2 = 1) with h2 | h2 <;> simp [h1, h2, hj, bop]
  · have h1 : a / 2 ^ j = 0 := Nat.div_eq_of_lt (Nat.lt_of_lt_of_le ha (Nat.pow_le_pow_right (by decide) (by omega)))
    have h2 : b / 2 ^ j = 0 := Nat.div_eq_of_lt (Nat.lt_of_lt_of_le hb (Nat.pow_le_pow_right (by decide) (by omega)))
    simp [hj, h1, h2]
theorem ofInt_w {a : Int} (h : isW a) : BitVec.ofInt IntKind.u32.bits a = BitVec.ofNat 32 a.toNat := by
  obtain ⟨h1, h2⟩ := h
  obtain ⟨n, rfl⟩ := Int.eq_ofNat_of_zero_le h1
  show BitVec.ofInt 32 (n : Int) = _
  rw [BitVec.ofInt_natCast]; rfl
theorem wrap_w {n : Nat} (h : n < 2 ^ 32) : IntKind.u32.wrap (n : Int) = (n : Int) := by
  rw [IntKind.wrap_u32]; omega
theorem nat_w {a : Int} (h : isW a) : a.toNat < 2 ^ 32 := by
  obtain ⟨h1, h2⟩ := h; omega
theorem both_wapp {op a b : Int} (ha : isW a) (hb : isW b) (ho : op = 9 ∨ op = 10 ∨ op = 11) : wapp op a b = ((valB (bothN op a.toNat b.toNat) : Int), 0) := by
  have h1 := nat_w ha
  have h2 := nat_w hb
  have e1 : (BitVec.ofNat 32 a.toNat).toNat = a.toNat := by rw [BitVec.toNat_ofNat]; omega
  have e2 : (BitVec.ofNat 32 b.toNat).toNat = b.toNat := by rw [BitVec.toNat_ofNat]; omega
  rcases ho with rfl | rfl | rfl
  · have : wapp 9 a b = (IntKind.u32.wrap ((BitVec.ofInt IntKind.u32.bits a &&& BitVec.ofInt IntKind.u32.bits b).toNat), 0) := rfl
    rw [this, ofInt_w ha, ofInt_w hb, both_and h1 h2]
    have h3 : (BitVec.ofNat 32 a.toNat &&& BitVec.ofNat 32 b.toNat).toNat = a.toNat &&& b.toNat := by rw [BitVec.toNat_and, e1, e2]
    rw [← h3]
    exact congrArg (·, 0) (wrap_w (BitVec.isLt _))
  · have : wapp 10 a b = (IntKind.u32.wrap ((BitVec.ofInt IntKind.u32.bits a ||| BitVec.ofInt IntKind.u32.bits b).toNat), 0) := rfl
    rw [this, ofInt_w ha, ofInt_w hb, both_or h1 h2]
    have h3 : (BitVec.ofNat 32 a.toNat ||| BitVec.ofNat 32 b.toNat).toNat = a.toNat ||| b.toNat := by rw [BitVec.toNat_or, e1, e2]
    rw [← h3]
    exact congrArg (·, 0) (wrap_w (BitVec.isLt _))
  · have : wapp 11 a b = (IntKind.u32.wrap ((BitVec.ofInt IntKind.u32.bits a ^^^ BitVec.ofInt IntKind.u32.bits b).toNat), 0) := rfl
    rw [this, ofInt_w ha, ofInt_w hb, both_xor h1 h2]
    have h3 : (BitVec.ofNat 32 a.toNat ^^^ BitVec.ofNat 32 b.toNat).toNat = a.toNat ^^^ b.toNat := by rw [BitVec.toNat_xor, e1, e2]
    rw [← h3]
    exact congrArg (·, 0) (wrap_w (BitVec.isLt _))
def shN (op : Int) : Nat → Nat → Nat
  | n, 0 => n
  | n, k + 1 => bif op == 12 then 2 * shN op n k % 4294967296 else shN op n k / 2
theorem shN_lt {op : Int} {n : Nat} (h : n < 4294967296) : ∀ k, shN op n k < 4294967296
  | 0 => h
  | k + 1 => by
    unfold shN
    have := shN_lt (op := op) h k
    cases op == 12 with
    | true => exact Nat.mod_lt _ (by decide)
    | false => simp only [cond_false]; omega
theorem shN_shl {n : Nat} : ∀ k, shN 12 n k % 4294967296 = n * 2 ^ k % 4294967296
  | 0 => by simp [shN]
  | k + 1 => by
    have ih := shN_shl (n := n) k
    have e : shN 12 n (k + 1) = 2 * shN 12 n k % 4294967296 := rfl
    rw [e, Nat.mod_mod, Nat.mul_mod, ih, ← Nat.mul_mod, Nat.pow_succ]
    congr 1
    rw [Nat.mul_comm 2, Nat.mul_assoc]
theorem shN_shr {op : Int} (ho : (op == 12) = false) {n : Nat} : ∀ k, shN op n k = n / 2 ^ k
  | 0 => by simp [shN]
  | k + 1 => by
    have ih := shN_shr ho (n := n) k
    have e : shN op n (k + 1) = shN op n k / 2 := by rw [shN, ho]; rfl
    rw [e, ih, Nat.div_div_eq_div_mul, Nat.pow_succ]
theorem shN_wshift {op a b : Int} (ha : isW a) (hb : 0 ≤ b) (hb2 : ¬ b > 31) (ho : op = 12 ∨ op = 13) : wshift op a b = ((shN op a.toNat b.toNat : Nat) : Int) := by
  have h1 := nat_w ha
  have hd : decide (b > 31) = false := by simpa using hb2
  have hmin : min b.toNat IntKind.u32.bits = b.toNat := by
    show min b.toNat 32 = b.toNat
    omega
  obtain ⟨n, rfl⟩ := Int.eq_ofNat_of_zero_le ha.1
  unfold wshift
  rw [hd, hmin]
  simp only [cond_false, Int.toNat_natCast]
  rcases ho with rfl | rfl
  · have h3 := shN_shl (n := n) b.toNat
    have h4 := shN_lt (op := 12) (n := n) (by simpa using h1) b.toNat
    show IntKind.u32.wrap ((n : Int) * 2 ^ b.toNat) = _
    rw [Nat.mod_eq_of_lt h4] at h3
    rw [h3, IntKind.wrap_u32, Int.natCast_emod, Int.natCast_mul, Int.natCast_pow]
    rfl
  · rw [shN_shr (by rfl)]
    show Int.fdiv (n : Int) (2 ^ b.toNat) = _
    have hp : (0 : Int) ≤ 2 ^ b.toNat := Int.le_of_lt (Int.pow_pos (by omega))
    rw [Int.fdiv_eq_ediv_of_nonneg _ hp, Int.natCast_ediv, Int.natCast_pow]
    rfl
theorem wrapN_i64 {n : Nat} (h : n < 9223372036854775808) : IntKind.i64.wrap (n : Int) = (n : Int) := wrap_i64 (by omega) (by omega)
theorem wrapN_u64 {n : Nat} (h : n < 18446744073709551616) : IntKind.u64.wrap (n : Int) = (n : Int) := by
  rw [IntKind.wrap_u64]; omega
theorem wrapN_u32 {n : Nat} (h : n < 4294967296) : IntKind.u32.wrap (n : Int) = (n : Int) := by
  rw [IntKind.wrap_u32]; omega
theorem ebin_rem {k : IntKind} {a b : Nat} (hb : 0 < b) : evalBin .rem (.int k (a : Int)) (.int k (b : Int)) = some (.int k ((a % b : Nat) : Int)) := by
  have h0 : ¬ (b : Int) = 0 := by omega
  simp only [evalBin, evalInt, isShift, cond_false, if_true, if_neg h0]
  rw [Int.tmod_eq_emod_of_nonneg (by omega), Int.natCast_emod]
theorem ebin_quo {k : IntKind} {a b : Nat} (hb : 0 < b) (hw : k.wrap ((a / b : Nat) : Int) = ((a / b : Nat) : Int)) : evalBin .quo (.int k (a : Int)) (.int k (b : Int)) = some (.int k ((a / b : Nat) : Int)) := by
  have h0 : ¬ (b : Int) = 0 := by omega
  simp only [evalBin, evalInt, isShift, cond_false, if_true, if_neg h0]
  rw [Int.tdiv_eq_ediv_of_nonneg (by omega), ← Int.natCast_ediv, hw]
theorem ebin_add {k : IntKind} {a b : Nat} (hw : k.wrap ((a + b : Nat) : Int) = ((a + b : Nat) : Int)) : evalBin .add (.int k (a : Int)) (.int k (b : Int)) = some (.int k ((a + b : Nat) : Int)) := by
  simp only [evalBin, evalInt, isShift, cond_false, if_true]
  rw [← Int.natCast_add, hw]
theorem ebin_mul {k : IntKind} {a b : Nat} (hw : k.wrap ((a * b : Nat) : Int) = ((a * b : Nat) : Int)) : evalBin .mul (.int k (a : Int)) (.int k (b : Int)) = some (.int k ((a * b : Nat) : Int)) := by
  simp only [evalBin, evalInt, isShift, cond_false, if_true]
  rw [← Int.natCast_mul, hw]
section
variable {P : Program} {T : Nat → Option TyI} {o : Oper} {e : AEnv} {h : AHeap}
theorem q_convSame (hT : TOk P T) {t u : TypeId} {x : Operand} {k k' : IntKind} {n : Int} {i j : TyI} (ho : o.op = .convert t u x) (hx : look e x = some (.int k' n)) (hi : T t = some i) (hj : T u = some j) (hk : j.k = .int k) (hw : k.wrap n = n) : QLoc P o e h [] (.int k n) := by
  have := q_convInt (h := h) hT ho hx hi hj hk
  rwa [hw] at this
end
def natCells (l : List Nat) : List (List AV) := l.map fun (b : Nat) => [AV.int .i64 (b : Int)]
theorem bitsN_succ (n k : Nat) : bitsN n (k + 1) = bitsN n k ++ [n / 2 ^ k % 2] := by
  simp [bitsN, List.range_succ]
theorem bitsN_length (n k : Nat) : (bitsN n k).length = k := by simp [bitsN]
theorem valB_drop {l : List Nat} {i b : Nat} (h : l[i]? = some b) : valB (l.drop i) = b + 2 * valB (l.drop (i + 1)) := by
  have hi : i < l.length := (List.getElem?_eq_some_iff.1 h).1
  rw [List.drop_eq_getElem_cons hi]
  have : l[i] = b := by rw [List.getElem?_eq_getElem hi] at h; cases h; rfl
  rw [this]; rfl
def mixB (op : Int) (a b i : Nat) : List Nat := (bothN op a b).take i ++ (bitsN a 32).drop i
theorem bothN_length (op : Int) (a b : Nat) : (bothN op a b).length = 32 := by simp [bothN]
theorem mixB_length {op : Int} {a b i : Nat} (h : i ≤ 32) : (mixB op a b i).length = 32 := by
  simp [mixB, bothN_length, bitsN_length]; omega
theorem mixB_get {op : Int} {a b i : Nat} (h : i < 32) : (mixB op a b i)[i]? = some (a / 2 ^ i % 2) := by
  have hl : ((bothN op a b).take i).length = i := by simp [bothN_length]; omega
  rw [mixB, List.getElem?_append_right (by omega), hl, Nat.sub_self, List.getElem?_drop, Nat.add_zero, bitsN_get h]
theorem mixB_succ {op : Int} {a b i : Nat} (h : i < 32) : mixB op a b (i + 1) = (mixB op a b i).set i (bop op (a / 2 ^ i % 2) (b / 2 ^ i % 2)) := by
  have hl : ((bothN op a b).take i).length = i := by simp [bothN_length]; omega
  have hg : (bothN op a b)[i]? = some (bop op (a / 2 ^ i % 2) (b / 2 ^ i % 2)) := by simp [bothN, h]
  have hd : (bitsN a 32).drop i = (a / 2 ^ i % 2) :: (bitsN a 32).drop (i + 1) := by
    have hi : i < (bitsN a 32).length := by rw [bitsN_length]; exact h
    rw [List.drop_eq_getElem_cons hi]
    congr 1
    have := bitsN_get (n := a) h
    rw [List.getElem?_eq_getElem hi] at this
    exact Option.some.inj this
  unfold mixB
  rw [List.set_append, if_neg (by omega), hl, Nat.sub_self, take_succ_eq hg, List.append_assoc, hd]
  rfl
theorem idx_map2 {α : Type} {l : List α} {f : α → List AV} {n : Int} {x : α} (h : l[n.toNat]? = some x) : (l.map f)[n.toNat]? = some (f x) := by
  rw [List.getElem?_map, h]; rfl
theorem Ghost.freezeAll {n : Nat} {e : AEnv} {h : AHeap} (t b : Nat) {m sz : Nat} {es : List (List AV)} (ht : e t = some (.ref b m 0 m)) (hb : h b = some (.row true sz es)) (hm : m = es.length) :
    Ghost ⟨n, e, h⟩ ⟨n, eput e t (.lst false es), hrm h b⟩ := by
  have := Ghost.freeze (n := n) t b ht hb hm
  rwa [List.drop_zero, List.take_of_length_le (Nat.le_of_eq hm.symm)] at this
theorem ebin_sub {k : IntKind} {a b : Nat} (hba : b ≤ a) (hw : k.wrap ((a - b : Nat) : Int) = ((a - b : Nat) : Int)) : evalBin .sub (.int k (a : Int)) (.int k (b : Int)) = some (.int k ((a - b : Nat) : Int)) := by
  simp only [evalBin, evalInt, isShift, cond_false, if_true]
  rw [← Int.ofNat_sub hba, hw]
theorem natCells_get {l : List Nat} {i b : Nat} (h : l[i]? = some b) : (natCells l)[0 + ((i : Nat) : Int).toNat]? = some [AV.int .i64 (b : Int)] := by
  rw [Nat.zero_add, Int.toNat_natCast, natCells, List.getElem?_map, h]; rfl
theorem get_set_self {α : Type} {l : List α} {i : Nat} {x y : α} (h : l[i]? = some x) : (l.set i y)[i]? = some y := by
  have hi := (List.getElem?_eq_some_iff.1 h).1
  simp [hi]
theorem natCells_len (l : List Nat) : (natCells l).length = l.length := by simp [natCells]
theorem natCells_append (l : List Nat) (b : Nat) : natCells (l ++ [b]) = natCells l ++ [[AV.int .i64 (b : Int)]] := by simp [natCells]
theorem natCells_set (l : List Nat) (i b : Nat) : (natCells l).set i [AV.int .i64 (b : Int)] = natCells (l.set i b) := by simp [natCells, List.map_set]
theorem bits_append (a k : Nat) : natCells (bitsN a k) ++ [[AV.int .i64 ((a / 2 ^ k % 2 : Nat) : Int)]] = natCells (bitsN a (k + 1)) := by
  rw [bitsN_succ, natCells_append]
theorem valB_drop_lt {l : List Nat} (hl : l.length = 32) (hb : ∀ b ∈ l, b < 2) (m : Nat) : valB (l.drop m) < 4294967296 := by
  have h := valB_lt (l.drop m) (fun b h => hb b (List.mem_of_mem_drop h))
  have : (2 : Nat) ^ (l.drop m).length ≤ 2 ^ 32 := Nat.pow_le_pow_right (by decide) (by simp; omega)
  have e : (2 : Nat) ^ 32 = 4294967296 := rfl
  omega
theorem both_set0 {op : Int} {a b k : Nat} (hk : k < 32) {c : List AV} (h : bop op (a / 2 ^ k % 2) (b / 2 ^ k % 2) = 0) : (natCells (mixB op a b k)).set (0 + ((k : Nat) : Int).toNat) [AV.int .i64 0] = natCells (mixB op a b (k + 1)) := by
  rw [mixB_succ hk, h, ← natCells_set, Nat.zero_add, Int.toNat_natCast]; rfl
theorem both_set1 {op : Int} {a b k : Nat} (hk : k < 32) {c : List AV} (h : bop op (a / 2 ^ k % 2) (b / 2 ^ k % 2) = 1) : ((natCells (mixB op a b k)).set (0 + ((k : Nat) : Int).toNat) c).set (0 + ((k : Nat) : Int).toNat) [AV.int .i64 1] = natCells (mixB op a b (k + 1)) := by
  rw [List.set_set, mixB_succ hk, h, ← natCells_set, Nat.zero_add, Int.toNat_natCast]; rfl
theorem mixB_zero (op : Int) (a b : Nat) : mixB op a b 0 = bitsN a 32 := by simp [mixB]
theorem mixB_end (op : Int) (a b : Nat) : mixB op a b 32 = bothN op a b := by
  have h1 := bothN_length op a b
  have h2 := bitsN_length a 32
  unfold mixB
  rw [List.take_of_length_le (by omega), List.drop_eq_nil_of_le (by omega), List.append_nil]
theorem bothN_lt (op : Int) (a b : Nat) : ∀ c ∈ bothN op a b, c < 2 := fun c hc => by
  simp only [bothN, List.mem_map] at hc
  obtain ⟨i, _, rfl⟩ := hc; exact bop_lt _ _ _
theorem isW_nat {a : Nat} (h : a < 4294967296) : isW (a : Int) := by constructor <;> omega
theorem wapp_add (a b : Nat) : wapp 4 a b = ((((a + b) % 4294967296 : Nat) : Int), 0) := by
  show (IntKind.u32.wrap ((a : Int) + b), (0 : Int)) = _
  rw [IntKind.wrap_u32]; rfl
theorem wapp_sub {a b : Nat} (h : b < 4294967296) : wapp 5 a b = ((((a + 4294967296 - b) % 4294967296 : Nat) : Int), 0) := by
  show (IntKind.u32.wrap ((a : Int) - b), (0 : Int)) = _
  rw [IntKind.wrap_u32]; congr 1; omega
theorem wapp_mul (a b : Nat) : wapp 6 a b = (((a * b % 4294967296 : Nat) : Int), 0) := by
  show (IntKind.u32.wrap ((a : Int) * b), (0 : Int)) = _
  rw [IntKind.wrap_u32, ← Int.natCast_mul]; rfl
theorem wapp_div0 (op a : Int) (h : op = 7 ∨ op = 8) : wapp op a 0 = (0, 14) := by
  rcases h with rfl | rfl <;> rfl
theorem wapp_div {a b : Nat} (ha : a < 4294967296) (h : ¬ b = 0) : wapp 7 a b = (((a / b : Nat) : Int), 0) := by
  show wdivide 7 a b = _
  have hb : ((b : Int) == 0) = false := by simp; omega
  unfold wdivide
  rw [hb]
  show (IntKind.u32.wrap ((a : Int).tdiv b), (0 : Int)) = _
  have h2 : a / b ≤ a := Nat.div_le_self a b
  rw [Int.tdiv_eq_ediv_of_nonneg (by omega), ← Int.natCast_ediv, wrapN_u32 (by omega)]
theorem wapp_mod {a b : Nat} (h : ¬ b = 0) : wapp 8 a b = (((a % b : Nat) : Int), 0) := by
  show wdivide 8 a b = _
  have hb : ((b : Int) == 0) = false := by simp; omega
  unfold wdivide
  rw [hb]
  show ((a : Int).tmod b, (0 : Int)) = _
  rw [Int.tmod_eq_emod_of_nonneg (by omega)]; rfl
theorem wapp_both {op : Int} {a b : Nat} (ha : a < 4294967296) (hb : b < 4294967296) (ho : op = 9 ∨ op = 10 ∨ op = 11) : wapp op a b = (((valB (bothN op a b) : Nat) : Int), 0) := both_wapp (isW_nat ha) (isW_nat hb) ho
theorem wapp_shift {op : Int} {a b : Nat} (ho : op = 12 ∨ op = 13) : wapp op a b = (wshift op a b, 0) := by
  rcases ho with rfl | rfl <;> rfl
theorem wshift_big (op : Int) {a b : Nat} (h : 32 ≤ b) : wshift op a b = 0 := by
  unfold wshift
  rw [show decide ((b : Int) > 31) = true by simp; omega]; rfl
theorem wshift_small {op : Int} {a b : Nat} (ha : a < 4294967296) (hb : b < 32) (ho : op = 12 ∨ op = 13) : wshift op a b = (shN op a b : Nat) := shN_wshift (isW_nat ha) (by omega) (by omega) ho
theorem wapp_lt (a b : Int) : wapp 14 a b = (bif decide (a < b) then 1 else 0, 0) := by
  show (wcompare 14 a b, (0 : Int)) = _
  simp [wcompare]
theorem wapp_eq (a b : Int) : wapp 15 a b = (bif a == b then 1 else 0, 0) := by
  show (wcompare 15 a b, (0 : Int)) = _
  simp [wcompare]
def Tac.inR (t : Tac) (regs : Int) : Prop := (setsOp t.op = true → 0 ≤ t.d ∧ t.d < regs) ∧ ∀ u ∈ t.uses, 0 ≤ u ∧ u < regs
theorem fits_inR {t : Tac} {f regs words : Int} (h : t.fits f regs words = true) : t.inR regs := by
  simp only [Tac.fits, Bool.and_eq_true, Bool.or_eq_true, Bool.not_eq_true', List.all_eq_true, within, decide_eq_true_eq] at h
  refine ⟨fun hs => ?_, fun u hu => h.2.2.2.1 u hu⟩
  rcases h.2.2.1 with h | h
  · rw [hs] at h; cases h
  · exact h
def byteCells (l : List UInt8) : List (List AV) := l.map fun b => [AV.int .u8 b.toNat]
theorem push_bytes : ∀ (l : List UInt8) (s : ByteArray), (l.map (fun b : UInt8 => ((b.toNat : Nat) : Int))).foldl (fun r n => r.push (UInt8.ofNat n.toNat)) s = ⟨s.data ++ l.toArray⟩
  | [], s => by simp
  | b :: r, s => by
    simp only [List.map_cons, List.foldl_cons, Int.toNat_natCast, UInt8.ofNat_toNat]
    rw [push_bytes r]
    show ByteArray.mk (s.data.push b ++ r.toArray) = _
    congr 1
    apply Array.toList_inj.1
    simp
theorem push_all (l : List UInt8) : (l.map (fun b : UInt8 => ((b.toNat : Nat) : Int))).foldl (fun r n => r.push (UInt8.ofNat n.toNat)) ByteArray.empty = ⟨l.toArray⟩ := by
  rw [push_bytes]
  show ByteArray.mk (#[] ++ l.toArray) = _
  simp
section
variable {P : Program} {T : Nat → Option TyI} {o : Oper} {e : AEnv} {h : AHeap}
theorem q_bytesStr (hT : TOk P T) {t u : TypeId} {x : Operand} {l : List UInt8} {ex : Bool} {i j k : TyI} {v : Nat} (ho : o.op = .convert t u x) (hx : look e x = some (.lst ex (byteCells l))) (hi : T t = some i) (hik : i.k = .slice v) (hv : T v = some k) (hk : k.k = .int .u8) (hj : T u = some j) (hjk : j.k = .string) :
    QLoc P o e h [] (.str ⟨l.toArray⟩) := by
  intro H ι a w s hs g1 g2
  have hx' : look s.env x = some (.lst ex (byteCells l)) := by rw [g1 x (by rw [ho]; simp [Op.operands]), hx]
  obtain ⟨info, d, e1, e2, e3, e4, e5, e6⟩ := tyOf_spec (hT _ _ hi)
  obtain ⟨info', d', e1', e2', e3', e4', e5', e6'⟩ := tyOf_spec (hT _ _ hj)
  obtain ⟨info'', d'', e1'', e2'', e3'', e4'', e5'', e6''⟩ := tyOf_spec (hT _ _ hv)
  have hd := tk_slice (P := P) (d := d) (e3 ▸ hik)
  subst hd
  have hd := tk_string (P := P) (d := d') (e3' ▸ hjk)
  subst hd
  have hd := tk_int (P := P) (d := d'') (e3'' ▸ hk)
  subst hd
  have hvx := look_rel hs hx'
  generalize hva : a.eval x = va at hvx
  refine ⟨_, .str _ _, ?_⟩
  simp only [execOp, ho, hva, Sem.run_bind]
  have key : (Go.convert t u va).run P w = .ok (.string ⟨l.toArray⟩) w := by
    rcases hvx.lst_inv with ⟨hl, ad, cap, rfl, h1, h2, h3, h4⟩ | ⟨hne, b, off, cap, sz, c, vals, rfl, hb, hsz', hv', hr, hc1, hex, hcap, hmax⟩
    · have hl0 : l = [] := by simpa [byteCells] using hl
      subst hl0
      cases ad with
      | none => simp [Go.convert, run_underlying' e2, run_underlying' e2', run_underlying' e2'', Conv.bytesToString, Sem.run_pure]; rfl
      | some ad =>
        rw [run_convert_bytes_string w t u v (some ad) 0 cap e2 e2'' e2']
        rw [run_bytesToString w ad 0 cap [] (by simpa using run_loadCells (P := P) (w := w) ad 0 (fun _ => undef) (fun j hj => by omega))]
        rfl
    · rw [run_convert_bytes_string w t u v (some ⟨b, off, none⟩) (byteCells l).length cap e2 e2'' e2']
      obtain ⟨TT, fr, hbw⟩ := hs.heap.know b c hb
      have hlen : (byteCells l).length = l.length := by simp [byteCells]
      rw [run_bytesToString w _ _ cap (l.map (fun b : UInt8 => ((b.toNat : Nat) : Int))) ?_, push_all]
      have hld := run_loadCells_list (P := P) (w := w) ⟨b, off, none⟩ (l.map (fun b : UInt8 => Value.int .u8 b.toNat)) (fun j y hj => by
        rw [List.getElem?_map] at hj
        cases hlj : l[j]? with
        | none => rw [hlj] at hj; cases hj
        | some n =>
          rw [hlj] at hj
          cases hj
          have hbc : (byteCells l)[j]? = some [AV.int .u8 n.toNat] := by simp [byteCells, hlj]
          have hsz : sz = 1 := (hsz' j _ hbc).symm
          subst hsz
          have q1 := hv' j _ 0 _ hbc rfl
          have q2 := (hr j _ 0 _ hbc rfl).int_inv
          rw [add_mk, cell_row hbw]
          rw [q2, Nat.mul_one, Nat.add_zero] at q1
          exact q1)
      rw [hlen]
      simpa [List.map_map, Function.comp_def] using hld
  simp only [key, Result.andThen_ok, Sem.run_pure]
end
structure Mach where
  words : List Int
  out : List UInt8
  read : Nat
  steps : Nat
  fin : Int
def rget (l : List Int) (z : Int) : Int := (l[z.toNat]?).getD 0
def rset (l : List Int) (z v : Int) : List Int := l.set z.toNat v
def byteOf (n : Int) : UInt8 := UInt8.ofNat n.toNat
def inAt (s : ByteArray) (i : Nat) : UInt8 := (s.data.toList[i]?).getD 0
def mstep (fuel : Int) (m : Mach) : Bool × Mach := bif decide ((m.steps : Int) ≥ fuel) then (false, { m with fin := 5 }) else (true, { m with steps := m.steps + 1 })
def mone (call : Int → Mach → Mach) (s : ByteArray) (t : Tac) (regs : List Int) (m : Mach) : List Int × Mach :=
  bif t.op == 1 then (rset regs t.d t.n, m)
  else bif t.op == 2 then (rset regs t.d (rget regs t.a), m)
  else bif t.op == 3 then
    (bif (wapp t.k (rget regs t.a) (rget regs t.b)).2 == 0 then (rset regs t.d (wapp t.k (rget regs t.a) (rget regs t.b)).1, m) else (regs, { m with fin := 2 }))
  else bif t.op == 4 then (rset regs t.d (rget m.words t.base), m)
  else bif t.op == 5 then (regs, { m with words := rset m.words t.base (rget regs t.a) })
  else bif t.op == 6 then (bif decide (rget regs t.a ≥ t.size) then (regs, { m with fin := 3 }) else (rset regs t.d (rget m.words (t.base + rget regs t.a)), m))
  else bif t.op == 7 then (bif decide (rget regs t.a ≥ t.size) then (regs, { m with fin := 3 }) else (regs, { m with words := rset m.words (t.base + rget regs t.a) (rget regs t.b) }))
  else bif t.op == 8 then (bif decide (m.read < s.size) then (rset regs t.d ((inAt s m.read).toNat : Int), { m with read := m.read + 1 }) else (rset regs t.d 256, m))
  else bif t.op == 9 then (bif decide (m.out.length ≥ 65536) then (regs, { m with fin := 4 }) else (regs, { m with out := m.out ++ [byteOf (rget regs t.a)] }))
  else bif t.op == 10 then (regs, call t.base m)
  else (regs, m)
def mins (call : Int → Mach → Mach) (s : ByteArray) (fuel : Int) : List Tac → List Int → Mach → Bool × List Int × Mach
  | [], regs, m => (true, regs, m)
  | t :: r, regs, m =>
    bif (mstep fuel m).1 then
      (bif (mone call s t regs (mstep fuel m).2).2.fin == 0 then mins call s fuel r (mone call s t regs (mstep fuel m).2).1 (mone call s t regs (mstep fuel m).2).2
       else (false, mone call s t regs (mstep fuel m).2))
    else (false, regs, (mstep fuel m).2)
def Block.next (k : Block) (regs : List Int) : Int := bif k.fin == 2 && rget regs k.v == 0 then k.els else k.to
def mblk (call : Int → Mach → Mach) (s : ByteArray) (fuel : Int) (f : BFunc) : Nat → Int → List Int → Mach → Mach
  | 0, _, _, m => m
  | g + 1, i, regs, m =>
    match f.blocks[i.toNat]? with
    | none => m
    | some k =>
      let p := mins call s fuel k.ins regs m
      bif p.1 then
        (bif (mstep fuel p.2.2).1 && !(k.fin == 3) then mblk call s fuel f g (k.next p.2.1) p.2.1 (mstep fuel p.2.2).2 else (mstep fuel p.2.2).2)
      else p.2.2
def mfun (b : Blocks) (s : ByteArray) (fuel : Int) : Nat → Int → Mach → Mach
  | 0, _, m => m
  | n + 1, i, m =>
    match b.funcs[i.toNat]? with
    | none => m
    | some f => mblk (mfun b s fuel n) s fuel f (fuel.toNat + 1) 0 (List.replicate f.regs.toNat 0) m
def m0 (b : Blocks) : Mach := ⟨List.replicate b.words.toNat 0, [], 0, 0, 0⟩
def fuel0 (fuel : Int) : Int := bif decide (fuel < 0) then 0 else fuel
def mrun (b : Blocks) (s : ByteArray) (fuel : Int) : Mach :=
  let m := mfun b s (fuel0 fuel) b.funcs.length ((b.funcs.length : Int) - 1) (m0 b)
  bif m.fin == 0 then { m with fin := 1 } else m
def resCells (m : Mach) : List AV := [.int .i64 m.fin, .str ⟨m.out.toArray⟩, .int .i64 m.steps]
def regCells (l : List Int) : List (List AV) := l.map fun n => [AV.int .u32 n]
def allR (l : List Int) : Prop := ∀ v ∈ l, isW v
theorem rget_w {l : List Int} (h : allR l) (z : Int) : isW (rget l z) := by
  unfold rget
  cases e : l[z.toNat]? with
  | none => exact isW_zero
  | some v => exact h v (List.mem_of_getElem? e)
theorem rset_w {l : List Int} (h : allR l) (z : Int) {v : Int} (hv : isW v) : allR (rset l z v) := fun u hu => by
  unfold rset at hu
  rcases List.mem_or_eq_of_mem_set hu with hu | rfl
  · exact h u hu
  · exact hv
theorem rset_length (l : List Int) (z v : Int) : (rset l z v).length = l.length := by simp [rset]
theorem byte_w (c : UInt8) : isW ((c.toNat : Nat) : Int) := by
  have : c.toNat < 256 := UInt8.toNat_lt c
  constructor <;> omega
structure Mach.good (W : Nat) (m : Mach) : Prop where
  len : m.words.length = W
  words : allR m.words
  out : m.out.length ≤ 65536
theorem mstep_good {fuel : Int} {m : Mach} {W : Nat} (h : m.good W) : (mstep fuel m).2.good W := by
  unfold mstep
  cases decide ((m.steps : Int) ≥ fuel) <;> exact ⟨h.1, h.2, h.3⟩
theorem mstep_steps (fuel : Int) (m : Mach) : m.steps ≤ (mstep fuel m).2.steps := by
  unfold mstep
  cases decide ((m.steps : Int) ≥ fuel) <;> simp
theorem mone_good {call : Int → Mach → Mach} {s : ByteArray} {W : Nat} (hc : ∀ i m, m.good W → (call i m).good W) (t : Tac) (ht : isW t.n) {regs : List Int} {m : Mach} (hr : allR regs) (h : m.good W) :
    allR (mone call s t regs m).1 ∧ (mone call s t regs m).1.length = regs.length ∧ (mone call s t regs m).2.good W := by
  have ha := rget_w hr t.a
  have hb := rget_w hr t.b
  unfold mone
  cases t.op == 1 with
  | true => exact ⟨rset_w hr _ ht, rset_length _ _ _, h⟩
  | false =>
  cases t.op == 2 with
  | true => exact ⟨rset_w hr _ ha, rset_length _ _ _, h⟩
  | false =>
  cases t.op == 3 with
  | true =>
    simp only [cond_true, cond_false]
    cases (wapp t.k (rget regs t.a) (rget regs t.b)).2 == 0 with
    | true => exact ⟨rset_w hr _ (wapp_word ha hb), rset_length _ _ _, h⟩
    | false => exact ⟨hr, rfl, ⟨h.1, h.2, h.3⟩⟩
  | false =>
  cases t.op == 4 with
  | true => exact ⟨rset_w hr _ (rget_w h.2 _), rset_length _ _ _, h⟩
  | false =>
  cases t.op == 5 with
  | true => exact ⟨hr, rfl, ⟨by simp only [cond_true, cond_false]; rw [rset_length]; exact h.1, rset_w h.2 _ ha, h.3⟩⟩
  | false =>
  cases t.op == 6 with
  | true =>
    simp only [cond_true, cond_false]
    cases decide (rget regs t.a ≥ t.size) with
    | true => exact ⟨hr, rfl, ⟨h.1, h.2, h.3⟩⟩
    | false => exact ⟨rset_w hr _ (rget_w h.2 _), rset_length _ _ _, h⟩
  | false =>
  cases t.op == 7 with
  | true =>
    simp only [cond_true, cond_false]
    cases decide (rget regs t.a ≥ t.size) with
    | true => exact ⟨hr, rfl, ⟨h.1, h.2, h.3⟩⟩
    | false => exact ⟨hr, rfl, ⟨by simp only [cond_false]; rw [rset_length]; exact h.1, rset_w h.2 _ hb, h.3⟩⟩
  | false =>
  cases t.op == 8 with
  | true =>
    simp only [cond_true, cond_false]
    cases decide (m.read < s.size) with
    | true => exact ⟨rset_w hr _ (byte_w _), rset_length _ _ _, ⟨h.1, h.2, h.3⟩⟩
    | false => exact ⟨rset_w hr _ ⟨by omega, by omega⟩, rset_length _ _ _, h⟩
  | false =>
  cases t.op == 9 with
  | true =>
    simp only [cond_true, cond_false]
    cases e : decide (m.out.length ≥ 65536) with
    | true => exact ⟨hr, rfl, ⟨h.1, h.2, h.3⟩⟩
    | false =>
      refine ⟨hr, rfl, ⟨h.1, h.2, ?_⟩⟩
      simp only [cond_false, List.length_append, List.length_cons, List.length_nil]
      simp at e; omega
  | false =>
  cases t.op == 10 with
  | true => exact ⟨hr, rfl, hc _ _ h⟩
  | false => exact ⟨hr, rfl, h⟩
theorem mone_steps {call : Int → Mach → Mach} {s : ByteArray} (hc : ∀ i m, m.steps ≤ (call i m).steps) (t : Tac) (regs : List Int) (m : Mach) : m.steps ≤ (mone call s t regs m).2.steps := by
  unfold mone
  cases t.op == 1 with
  | true => exact Nat.le_refl _
  | false =>
  cases t.op == 2 with
  | true => exact Nat.le_refl _
  | false =>
  cases t.op == 3 with
  | true =>
    simp only [cond_true, cond_false]
    cases (wapp t.k (rget regs t.a) (rget regs t.b)).2 == 0 <;> exact Nat.le_refl _
  | false =>
  cases t.op == 4 with
  | true => exact Nat.le_refl _
  | false =>
  cases t.op == 5 with
  | true => exact Nat.le_refl _
  | false =>
  cases t.op == 6 with
  | true =>
    simp only [cond_true, cond_false]
    cases decide (rget regs t.a ≥ t.size) <;> exact Nat.le_refl _
  | false =>
  cases t.op == 7 with
  | true =>
    simp only [cond_true, cond_false]
    cases decide (rget regs t.a ≥ t.size) <;> exact Nat.le_refl _
  | false =>
  cases t.op == 8 with
  | true =>
    simp only [cond_true, cond_false]
    cases decide (m.read < s.size) <;> exact Nat.le_refl _
  | false =>
  cases t.op == 9 with
  | true =>
    simp only [cond_true, cond_false]
    cases e : decide (m.out.length ≥ 65536) <;> exact Nat.le_refl _
  | false =>
  cases t.op == 10 with
  | true => exact hc _ _
  | false => exact Nat.le_refl _
theorem mins_good {call : Int → Mach → Mach} {s : ByteArray} {fuel : Int} {W : Nat} (hc : ∀ i m, m.good W → (call i m).good W) : ∀ (l : List Tac), insW l → ∀ (regs : List Int) (m : Mach), allR regs → m.good W →
    allR (mins call s fuel l regs m).2.1 ∧ (mins call s fuel l regs m).2.1.length = regs.length ∧ (mins call s fuel l regs m).2.2.good W
  | [], _, regs, m, hr, h => ⟨hr, rfl, h⟩
  | t :: r, hl, regs, m, hr, h => by
    have h1 := mstep_good (fuel := fuel) h
    have h2 := mone_good (s := s) hc t (hl t (by simp)) hr h1
    unfold mins
    cases (mstep fuel m).1 with
    | false => exact ⟨hr, rfl, h1⟩
    | true =>
      simp only [cond_true]
      cases (mone call s t regs (mstep fuel m).2).2.fin == 0 with
      | false => exact h2
      | true =>
        have ih := mins_good (fuel := fuel) (s := s) hc r (fun u hu => hl u (by simp [hu])) _ _ h2.1 h2.2.2
        exact ⟨ih.1, ih.2.1.trans h2.2.1, ih.2.2⟩
theorem mins_steps {call : Int → Mach → Mach} {s : ByteArray} {fuel : Int} (hc : ∀ i m, m.steps ≤ (call i m).steps) : ∀ (l : List Tac) (regs : List Int) (m : Mach), m.steps ≤ (mins call s fuel l regs m).2.2.steps
  | [], _, _ => Nat.le_refl _
  | t :: r, regs, m => by
    have h1 := mstep_steps fuel m
    have h2 := mone_steps (s := s) hc t regs (mstep fuel m).2
    unfold mins
    cases (mstep fuel m).1 with
    | false => exact h1
    | true =>
      simp only [cond_true]
      cases (mone call s t regs (mstep fuel m).2).2.fin == 0 with
      | false => exact Nat.le_trans h1 h2
      | true => exact Nat.le_trans (Nat.le_trans h1 h2) (mins_steps hc r _ _)
theorem mblk_good {call : Int → Mach → Mach} {s : ByteArray} {fuel : Int} {W : Nat} (hc : ∀ i m, m.good W → (call i m).good W) {f : BFunc} (hf : ∀ x ∈ f.blocks, insW x.ins) : ∀ (g : Nat) (i : Int) (regs : List Int) (m : Mach), allR regs → m.good W → (mblk call s fuel f g i regs m).good W
  | 0, _, _, _, _, h => h
  | g + 1, i, regs, m, hr, h => by
    unfold mblk
    split
    · exact h
    · rename_i k hk
      have h2 := mins_good (s := s) (fuel := fuel) hc k.ins (hf k (List.mem_of_getElem? hk)) regs m hr h
      have h3 := mstep_good (fuel := fuel) h2.2.2
      dsimp only
      cases (mins call s fuel k.ins regs m).1 with
      | false => exact h2.2.2
      | true =>
        simp only [cond_true]
        cases (mstep fuel (mins call s fuel k.ins regs m).2.2).1 && !(k.fin == 3) with
        | false => exact h3
        | true => exact mblk_good hc hf g _ _ _ h2.1 h3
theorem mblk_steps {call : Int → Mach → Mach} {s : ByteArray} {fuel : Int} (hc : ∀ i m, m.steps ≤ (call i m).steps) {f : BFunc} : ∀ (g : Nat) (i : Int) (regs : List Int) (m : Mach), m.steps ≤ (mblk call s fuel f g i regs m).steps
  | 0, _, _, _ => Nat.le_refl _
  | g + 1, i, regs, m => by
    unfold mblk
    split
    · exact Nat.le_refl _
    · rename_i k hk
      have h2 := mins_steps (s := s) (fuel := fuel) hc k.ins regs m
      have h3 := mstep_steps fuel (mins call s fuel k.ins regs m).2.2
      dsimp only
      cases (mins call s fuel k.ins regs m).1 with
      | false => exact h2
      | true =>
        simp only [cond_true]
        cases (mstep fuel (mins call s fuel k.ins regs m).2.2).1 && !(k.fin == 3) with
        | false => exact Nat.le_trans h2 h3
        | true => exact Nat.le_trans (Nat.le_trans h2 h3) (mblk_steps hc g _ _ _)
theorem allR_rep (n : Nat) : allR (List.replicate n 0) := fun v hv => by
  rw [List.eq_of_mem_replicate hv]; exact isW_zero
def Blocks.insW (b : Blocks) : Prop := ∀ f ∈ b.funcs, ∀ x ∈ f.blocks, Sv.insW x.ins
theorem mfun_good {b : Blocks} (hb : b.insW) {s : ByteArray} {fuel : Int} {W : Nat} : ∀ (n : Nat) (i : Int) (m : Mach), m.good W → (mfun b s fuel n i m).good W
  | 0, _, _, h => h
  | n + 1, i, m, h => by
    unfold mfun
    split
    · exact h
    · rename_i f hf
      exact mblk_good (fun i m h => mfun_good hb n i m h) (hb f (List.mem_of_getElem? hf)) _ _ _ _ (allR_rep _) h
theorem mfun_steps {b : Blocks} {s : ByteArray} {fuel : Int} : ∀ (n : Nat) (i : Int) (m : Mach), m.steps ≤ (mfun b s fuel n i m).steps
  | 0, _, _ => Nat.le_refl _
  | n + 1, i, m => by
    unfold mfun
    split
    · exact Nat.le_refl _
    · exact mblk_steps (fun i m => mfun_steps n i m) _ _ _ _
def runCells (b : Blocks) (s : ByteArray) (fuel : Int) (m : Mach) : List AV :=
  [.int .i64 b.words, funcsAV b.funcs, .str s, .int .i64 fuel, .ref 1 b.words.toNat 0 b.words.toNat, .ref 2 m.out.length 0 m.out.length, .int .i64 (m.read : Int), .int .i64 (m.steps : Int), .int .i64 m.fin]
abbrev mheap (h : AHeap) (b : Blocks) (s : ByteArray) (fuel : Int) (m : Mach) : AHeap :=
  hput (hput (hput h 0 (.row false 9 [runCells b s fuel m])) 1 (.row true 1 (regCells m.words))) 2 (.row true 1 (byteCells m.out))
theorem regCells_len (l : List Int) : (regCells l).length = l.length := by simp [regCells]
theorem regCells_rep (n : Nat) : List.replicate n [AV.int .u32 0] = regCells (List.replicate n 0) := by simp [regCells]
theorem rcell {l : List Int} {z : Int} (h : 0 ≤ z ∧ z < l.length) : (regCells l)[0 + z.toNat]? = some [AV.int .u32 (rget l z)] := by
  obtain ⟨v, hv⟩ := get_of_lt (l := l) (k := z.toNat) (by omega)
  rw [Nat.zero_add, regCells, List.getElem?_map, hv, rget, hv]; rfl
theorem rcell_set (l : List Int) (z v : Int) : (regCells l).set (0 + z.toNat) [AV.int .u32 v] = regCells (rset l z v) := by
  rw [Nat.zero_add, regCells, regCells, rset, List.map_set]
theorem rcell_set2 (l : List Int) (z v : Int) (c : List AV) : ((regCells l).set (0 + z.toNat) c).set (0 + z.toNat) [AV.int .u32 v] = regCells (rset l z v) := by
  rw [List.set_set, rcell_set]
theorem inAt_get {s : ByteArray} {i : Nat} (h : i < s.size) : s.data.toList[i]? = some (inAt s i) := by
  obtain ⟨v, hv⟩ := get_of_lt (l := s.data.toList) (k := i) (by simpa using h)
  rw [inAt, hv]; rfl
theorem wrap_byte {n : Int} (h : isW n) : IntKind.u8.wrap n = (((byteOf n).toNat : Nat) : Int) := by
  obtain ⟨h1, h2⟩ := h
  obtain ⟨k, rfl⟩ := Int.eq_ofNat_of_zero_le h1
  rw [IntKind.wrap_u8, byteOf, Int.toNat_natCast]
  show _ = (((UInt8.ofNat k).toNat : Nat) : Int)
  rw [UInt8.toNat_ofNat']
  omega
section
variable {P : Program} {T : Nat → Option TyI} {o : Oper} {e : AEnv} {h : AHeap}
theorem q_convTo (hT : TOk P T) {t u : TypeId} {x : Operand} {k k' : IntKind} {n r : Int} {i j : TyI} (ho : o.op = .convert t u x) (hx : look e x = some (.int k' n)) (hi : T t = some i) (hj : T u = some j) (hk : j.k = .int k) (hw : k.wrap n = r) : QLoc P o e h [] (.int k r) := by
  have := q_convInt (h := h) hT ho hx hi hj hk
  rwa [hw] at this
end
section
variable {call : Int → Mach → Mach} {s : ByteArray} {t : Tac} {regs : List Int} {m : Mach}
theorem mone1 (h : t.op = 1) : mone call s t regs m = (rset regs t.d t.n, m) := by simp [mone, h]
theorem mone2 (h : t.op = 2) : mone call s t regs m = (rset regs t.d (rget regs t.a), m) := by simp [mone, h]
theorem mone3 (h : t.op = 3) (hz : ((wapp t.k (rget regs t.a) (rget regs t.b)).2 != 0) = false) : mone call s t regs m = (rset regs t.d (wapp t.k (rget regs t.a) (rget regs t.b)).1, m) := by
  have hz' : (wapp t.k (rget regs t.a) (rget regs t.b)).2 = 0 := by simpa using hz
  simp [mone, h, hz']
theorem mone3z (h : t.op = 3) (hz : ((wapp t.k (rget regs t.a) (rget regs t.b)).2 != 0) = true) : mone call s t regs m = (regs, { m with fin := 2 }) := by
  have hz' : ((wapp t.k (rget regs t.a) (rget regs t.b)).2 == 0) = false := by simpa [bne] using hz
  simp [mone, h, hz']
theorem mone4 (h : t.op = 4) : mone call s t regs m = (rset regs t.d (rget m.words t.base), m) := by simp [mone, h]
theorem mone5 (h : t.op = 5) : mone call s t regs m = (regs, { m with words := rset m.words t.base (rget regs t.a) }) := by simp [mone, h]
theorem mone67z (h : t.op = 6 ∨ t.op = 7) (hz : decide (rget regs t.a ≥ t.size) = true) : mone call s t regs m = (regs, { m with fin := 3 }) := by
  rcases h with h | h
  · unfold mone; simp only [h, hz]; rfl
  · unfold mone; simp only [h, hz]; rfl
theorem mone6 (h : t.op = 6) (hz : decide (rget regs t.a ≥ t.size) = false) : mone call s t regs m = (rset regs t.d (rget m.words (t.base + rget regs t.a)), m) := by
  unfold mone; simp only [h, hz]; rfl
theorem mone7 (h : t.op = 7) (hz : decide (rget regs t.a ≥ t.size) = false) : mone call s t regs m = (regs, { m with words := rset m.words (t.base + rget regs t.a) (rget regs t.b) }) := by
  unfold mone; simp only [h, hz]; rfl
theorem mone8 (h : t.op = 8) (hz : m.read < s.size) : mone call s t regs m = (rset regs t.d ((inAt s m.read).toNat : Int), { m with read := m.read + 1 }) := by
  have hz' : decide (m.read < s.size) = true := by simpa using hz
  unfold mone; simp only [h, hz']; rfl
theorem mone8z (h : t.op = 8) (hz : ¬ m.read < s.size) : mone call s t regs m = (rset regs t.d 256, m) := by
  have hz' : decide (m.read < s.size) = false := by simpa using hz
  unfold mone; simp only [h, hz']; rfl
theorem mone9z (h : t.op = 9) (hz : m.out.length ≥ 65536) : mone call s t regs m = (regs, { m with fin := 4 }) := by
  have hz' : decide (m.out.length ≥ 65536) = true := by simpa using hz
  unfold mone; simp only [h, hz']; rfl
theorem mone9 (h : t.op = 9) (hz : ¬ m.out.length ≥ 65536) : mone call s t regs m = (regs, { m with out := m.out ++ [byteOf (rget regs t.a)] }) := by
  have hz' : decide (m.out.length ≥ 65536) = false := by simpa using hz
  unfold mone; simp only [h, hz']; rfl
theorem mone10 (h : t.op = 10) : mone call s t regs m = (regs, call t.base m) := by simp [mone, h]
end
theorem mstep_no {fuel : Int} {m : Mach} (h : decide ((m.steps : Int) ≥ fuel) = true) : mstep fuel m = (false, { m with fin := 5 }) := by simp [mstep, h]
theorem mstep_yes {fuel : Int} {m : Mach} (h : decide ((m.steps : Int) ≥ fuel) = false) : mstep fuel m = (true, { m with steps := m.steps + 1 }) := by simp [mstep, h]
structure TacIn (t : Tac) (number R : Nat) (words : Nat) : Prop where
  op : 1 ≤ t.op ∧ t.op ≤ 10
  d : setsOp t.op = true → 0 ≤ t.d ∧ t.d < R
  a : use1 t.op = true ∨ use2 t.op = true → 0 ≤ t.a ∧ t.a < R
  b : use2 t.op = true → 0 ≤ t.b ∧ t.b < R
  base : t.op = 4 ∨ t.op = 5 → 0 ≤ t.base ∧ t.base < words
  arr : t.op = 6 ∨ t.op = 7 → 1 ≤ t.size ∧ t.size ≤ 4096 ∧ 0 ≤ t.base ∧ t.base + t.size ≤ words
  call : t.op = 10 → 0 ≤ t.base ∧ t.base < number
theorem tacIn_of {t : Tac} {f regs words : Int} (h : t.fits f regs words = true) : TacIn t f.toNat regs.toNat words.toNat := by
  have h0 := h
  simp only [Tac.fits, Bool.and_eq_true, Bool.or_eq_true, Bool.not_eq_true', List.all_eq_true, within, decide_eq_true_eq] at h
  obtain ⟨h1, h2, h3, h4, h5, _⟩ := h
  refine ⟨⟨h1, h2⟩, fun e => ?_, fun e => ?_, fun e => ?_, fun e => ?_, fun e => ?_, fun e => ?_⟩
  · rcases h3 with h3 | h3
    · rw [e] at h3; cases h3
    · omega
  · have := h4 t.a (by rcases e with e | e <;> simp [Tac.uses, e] <;> cases use1 t.op <;> simp)
    omega
  · have e2 := use12 t.op
    rw [e, Bool.and_true] at e2
    have := h4 t.b (by simp [Tac.uses, e, e2])
    omega
  · rcases e with e | e <;> simp [Tac.rest, baseOp, e, within] at h5 <;> omega
  · rcases e with e | e <;> simp [Tac.rest, baseOp, arrOp, e] at h5 <;> omega
  · simp [Tac.rest, baseOp, arrOp, e, within] at h5; omega
structure FG where
  i : Int
  regs : List Int
  m : Mach
  g : Nat
structure IG where
  j : Nat
  regs : List Int
  m : Mach
section
variable {call : Int → Mach → Mach} {s : ByteArray} {fuel : Int} {f : BFunc} {W R : Nat} {tgt : Mach} {q : FG} {k : Block} {r : IG}
structure FInv (call : Int → Mach → Mach) (s : ByteArray) (fuel : Int) (f : BFunc) (W R : Nat) (tgt : Mach) (q : FG) : Prop where
  good : q.m.good W
  fin : q.m.fin = 0
  regs : allR q.regs
  len : q.regs.length = R
  i : 0 ≤ q.i ∧ q.i < f.blocks.length
  g : 0 < q.g
  gas : fuel.toNat < q.m.steps + q.g
  tgt : mblk call s fuel f q.g q.i q.regs q.m = tgt
structure IInv (call : Int → Mach → Mach) (s : ByteArray) (fuel : Int) (k : Block) (q : FG) (W R : Nat) (r : IG) : Prop where
  good : r.m.good W
  fin : r.m.fin = 0
  regs : allR r.regs
  len : r.regs.length = R
  j : r.j ≤ k.ins.length
  steps : q.m.steps ≤ r.m.steps
  eq : mins call s fuel (k.ins.drop r.j) r.regs r.m = mins call s fuel k.ins q.regs q.m
theorem FInv.start (h : FInv call s fuel f W R tgt q) : IInv call s fuel k q W R ⟨0, q.regs, q.m⟩ := ⟨h.good, h.fin, h.regs, h.len, Nat.zero_le _, Nat.le_refl _, rfl⟩
theorem FInv.unfold (h : FInv call s fuel f W R tgt q) (hk : f.blocks[q.i.toNat]? = some k) : tgt =
    (bif (mins call s fuel k.ins q.regs q.m).1 then
        (bif (mstep fuel (mins call s fuel k.ins q.regs q.m).2.2).1 && !(k.fin == 3) then mblk call s fuel f (q.g - 1) (k.next (mins call s fuel k.ins q.regs q.m).2.1) (mins call s fuel k.ins q.regs q.m).2.1 (mstep fuel (mins call s fuel k.ins q.regs q.m).2.2).2 else (mstep fuel (mins call s fuel k.ins q.regs q.m).2.2).2)
      else (mins call s fuel k.ins q.regs q.m).2.2) := by
  have h1 := h.tgt
  obtain ⟨g, hg⟩ : ∃ g, q.g = g + 1 := ⟨q.g - 1, by have := h.g; omega⟩
  rw [hg] at h1 ⊢
  rw [← h1, mblk, hk]; rfl
theorem IInv.head (hi : IInv call s fuel k q W R r) {u : Tac} (hu : k.ins[r.j]? = some u) : mins call s fuel k.ins q.regs q.m = mins call s fuel (u :: k.ins.drop (r.j + 1)) r.regs r.m := by
  rw [← hi.eq]
  have hl := (List.getElem?_eq_some_iff.1 hu)
  obtain ⟨h1, h2⟩ := hl
  rw [List.drop_eq_getElem_cons h1, h2]
theorem fin_A (h : FInv call s fuel f W R tgt q) (hk : f.blocks[q.i.toNat]? = some k) (hi : IInv call s fuel k q W R r) {u : Tac} (hu : k.ins[r.j]? = some u) (hs : (mstep fuel r.m).1 = false) : tgt = (mstep fuel r.m).2 := by
  have e : mins call s fuel k.ins q.regs q.m = (false, r.regs, (mstep fuel r.m).2) := by rw [hi.head hu, mins, hs]; rfl
  rw [h.unfold hk, e]; rfl
theorem fin_B (h : FInv call s fuel f W R tgt q) (hk : f.blocks[q.i.toNat]? = some k) (hi : IInv call s fuel k q W R r) {u : Tac} (hu : k.ins[r.j]? = some u) (hs : (mstep fuel r.m).1 = true) (hz : ((mone call s u r.regs (mstep fuel r.m).2).2.fin != 0) = true) :
    tgt = (mone call s u r.regs (mstep fuel r.m).2).2 := by
  have hz' : ((mone call s u r.regs (mstep fuel r.m).2).2.fin == 0) = false := by simpa [bne] using hz
  have e : mins call s fuel k.ins q.regs q.m = (false, mone call s u r.regs (mstep fuel r.m).2) := by rw [hi.head hu, mins, hs, hz']; rfl
  rw [h.unfold hk, e]; rfl
theorem IInv.next (hi : IInv call s fuel k q W R r) (hcg : ∀ i m, m.good W → (call i m).good W) (hcs : ∀ i m, m.steps ≤ (call i m).steps) {u : Tac} (hu : k.ins[r.j]? = some u) (hw : isW u.n) (hs : (mstep fuel r.m).1 = true) (hz : ((mone call s u r.regs (mstep fuel r.m).2).2.fin != 0) = false) :
    IInv call s fuel k q W R ⟨r.j + 1, (mone call s u r.regs (mstep fuel r.m).2).1, (mone call s u r.regs (mstep fuel r.m).2).2⟩ := by
  have hz' : ((mone call s u r.regs (mstep fuel r.m).2).2.fin) = 0 := by simpa using hz
  have hg := mone_good (s := s) hcg u hw hi.regs (mstep_good (fuel := fuel) hi.good)
  refine ⟨hg.2.2, hz', hg.1, hg.2.1.trans hi.len, (List.getElem?_eq_some_iff.1 hu).1, ?_, ?_⟩
  · exact Nat.le_trans hi.steps (Nat.le_trans (mstep_steps fuel r.m) (mone_steps hcs u r.regs _))
  · rw [hi.head hu]
    dsimp only
    conv => rhs; rw [mins]
    rw [hs, hz']; rfl
theorem IInv.done (hi : IInv call s fuel k q W R r) (hj : k.ins.length ≤ r.j) : mins call s fuel k.ins q.regs q.m = (true, r.regs, r.m) := by
  rw [← hi.eq, List.drop_eq_nil_of_le hj]; rfl
theorem fin_C1 (h : FInv call s fuel f W R tgt q) (hk : f.blocks[q.i.toNat]? = some k) (hi : IInv call s fuel k q W R r) (hj : k.ins.length ≤ r.j) (hs : (mstep fuel r.m).1 = false) : tgt = (mstep fuel r.m).2 := by
  rw [h.unfold hk, hi.done hj]
  simp only [hs, Bool.false_and, cond_false, cond_true]
theorem fin_C2 (h : FInv call s fuel f W R tgt q) (hk : f.blocks[q.i.toNat]? = some k) (hi : IInv call s fuel k q W R r) (hj : k.ins.length ≤ r.j) (hf : (k.fin == 3) = true) : tgt = (mstep fuel r.m).2 := by
  rw [h.unfold hk, hi.done hj]
  simp only [hf, Bool.not_true, Bool.and_false, cond_false, cond_true]
theorem fin_C (h : FInv call s fuel f W R tgt q) (hk : f.blocks[q.i.toNat]? = some k) (hi : IInv call s fuel k q W R r) (hj : k.ins.length ≤ r.j) (hs : (mstep fuel r.m).1 = false ∨ (k.fin == 3) = true) : tgt = (mstep fuel r.m).2 :=
  hs.elim (fin_C1 h hk hi hj) (fin_C2 h hk hi hj)
theorem mstep_true {m : Mach} (hs : (mstep fuel m).1 = true) : (m.steps : Int) < fuel ∧ (mstep fuel m).2 = { m with steps := m.steps + 1 } := by
  unfold mstep at *
  cases e : decide ((m.steps : Int) ≥ fuel) with
  | true => rw [e] at hs; cases hs
  | false => simp at e; exact ⟨e, rfl⟩
theorem FInv.next (h : FInv call s fuel f W R tgt q) (hk : f.blocks[q.i.toNat]? = some k) (hi : IInv call s fuel k q W R r) (hj : k.ins.length ≤ r.j) (hs : (mstep fuel r.m).1 = true) (hf : (k.fin == 3) = false) (hn : 0 ≤ k.next r.regs ∧ k.next r.regs < f.blocks.length) :
    FInv call s fuel f W R tgt ⟨k.next r.regs, r.regs, (mstep fuel r.m).2, q.g - 1⟩ ∧ q.g - 1 < q.g := by
  obtain ⟨h1, h2⟩ := mstep_true hs
  have hg := h.g
  have hgas := h.gas
  have hst := hi.steps
  refine ⟨⟨mstep_good hi.good, by rw [h2]; exact hi.fin, hi.regs, hi.len, hn, ?_, ?_, ?_⟩, by omega⟩
  · rw [show (FG.mk (k.next r.regs) r.regs (mstep fuel r.m).2 (q.g - 1)).g = q.g - 1 from rfl]; omega
  · rw [h2]; dsimp only; omega
  · rw [h.unfold hk, hi.done hj]
    simp only [hs, hf, Bool.not_false, Bool.and_true, cond_true]
end
theorem ends_next {k : Block} {blocks regs : Int} (h : k.ends blocks regs = true) (hf : (k.fin == 3) = false) (l : List Int) : 0 ≤ k.next l ∧ k.next l < blocks := by
  unfold Block.ends at h
  unfold Block.next
  cases e1 : k.fin == 1 with
  | true =>
    rw [e1] at h
    have e2 : (k.fin == 2) = false := by simp at e1 ⊢; omega
    rw [e2]
    simp [within] at h ⊢; omega
  | false =>
    cases e2 : k.fin == 2 with
    | true =>
      rw [e1, e2] at h
      simp [within] at h
      cases rget l k.v == 0 <;> simp <;> omega
    | false => rw [e1, e2, hf] at h; simp at h
theorem ends_v {k : Block} {blocks regs : Int} (h : k.ends blocks regs = true) (hf : (k.fin == 2) = true) : 0 ≤ k.v ∧ k.v < regs := by
  have e1 : (k.fin == 1) = false := by simp at hf ⊢; omega
  unfold Block.ends at h
  rw [e1, hf] at h
  simp [within] at h; omega
theorem FInv.first {call : Int → Mach → Mach} {s : ByteArray} {fuel : Int} {f : BFunc} {W : Nat} {m : Mach} (hm : m.good W) (h0 : m.fin = 0) (hf : f.blocks ≠ []) :
    FInv call s fuel f W f.regs.toNat (mblk call s fuel f (fuel.toNat + 1) 0 (List.replicate f.regs.toNat 0) m) ⟨0, List.replicate f.regs.toNat 0, m, fuel.toNat + 1⟩ :=
  ⟨hm, h0, allR_rep _, by simp, ⟨by show (0 : Int) ≤ 0; omega, by show (0 : Int) < _; have := List.length_pos_iff.2 hf; omega⟩, Nat.succ_pos _, by show fuel.toNat < m.steps + (fuel.toNat + 1); omega, rfl⟩
section
variable {P : Program} {T : Nat → Option TyI} {o : Oper} {e : AEnv} {h : AHeap}
theorem q_makeFunc {f : Fn} {first captured : Array Operand} {xs cs : List AV} (ho : o.op = .makeFunc f first captured) (hx : lookAll e first.toList = some xs) (hc : lookAll e captured.toList = some cs) : QLoc P o e h [] (.fn f xs cs) := by
  intro H ι a w s hs g1 g2
  have hx' : lookAll s.env first.toList = some xs := by
    rw [lookAll_agree (e := e) (fun x hx => g1 x (by rw [ho]; simp [Op.operands]; exact .inl (by simpa using hx)))]; exact hx
  have hc' : lookAll s.env captured.toList = some cs := by
    rw [lookAll_agree (e := e) (fun x hx => g1 x (by rw [ho]; simp [Op.operands]; exact .inr (by simpa using hx)))]; exact hc
  have h1 := relAll_map hs hx'
  have h2 := relAll_map hs hc'
  refine ⟨.func f (first.map a.eval) (captured.map a.eval), .fn _ _ _ _ _ _ h1.1 h2.1 h1.2 h2.2, ?_⟩
  simp only [execOp, ho, Instr.makeFunc, Sem.run_bind, Sem.run_pure, Result.andThen_ok]
theorem relAll_append {H : Know} {ι : Lay} {xs ys : List AV} {us vs : Array Value} (h1 : RelAll H ι xs us) (h2 : RelAll H ι ys vs) : RelAll H ι (xs ++ ys) (us ++ vs) := by
  refine ⟨by simp [h1.1, h2.1], fun j x v g1 g2 => ?_⟩
  by_cases hj : j < xs.length
  · rw [List.getElem?_append_left hj] at g1
    rw [Array.getElem?_append_left (by rw [← h1.1]; exact hj)] at g2
    exact h1.2 j x v g1 g2
  · rw [List.getElem?_append_right (by omega)] at g1
    rw [Array.getElem?_append_right (by rw [← h1.1]; omega), ← h1.1] at g2
    exact h2.2 _ x v g1 g2
end
section
variable {P : Program} {T : Nat → Option TyI} {o : Oper} {e : AEnv} {h : AHeap}
def jAV (f : Bool) (b : Nat) (es : List (List AV)) : AV := bif f then .lst true es else .ref b es.length 0 es.length
def jObj (f : Bool) (sz : Nat) (es : List (List AV)) : AObj := bif f then .free else .row true sz es
theorem o_appendJ (hT : TOk P T) {t t' : TypeId} {x y : Operand} {i i' j : TyI} {u u' : Nat} {f ex2 : Bool} {sz : Nat} {es es2 : List (List AV)} (b : Nat)
    (ho : o.op = .call { callee := .builtin .append, args := #[x, y], argTypes := #[t, t'] }) (hx : look e x = some (jAV f b es)) (hy : look e y = some (.lst ex2 es2)) (hi : T t = some i) (hk : i.k = .slice u) (hj : T u = some j) (hi' : T t' = some i') (hk' : i'.k = .slice u')
    (hb : h b = some (jObj f sz es)) (hsz : sz = j.size) (hz : j.zero.length = j.size) (hp : 0 < j.size)
    (hu : ∀ cs ∈ es, cs.length = sz) (hpu : ∀ cs ∈ es, cs.all AV.isPure1 = true) (hu2 : ∀ cs ∈ es2, cs.length = sz) (hpure : ∀ cs ∈ es2, cs.all AV.isPure1 = true)
    (hby : (es.length + es2.length) * j.bytes ≤ 140737488355328) (hml : es.length + es2.length ≤ maxLen) :
    OLoc P o e h [b] [(b, jObj (f && es2.isEmpty) sz (es ++ es2))] (some (jAV (f && es2.isEmpty) b (es ++ es2))) := by
  cases f with
  | false =>
    have := o_append hT ho hx hy hi hk hj hi' hk' hb rfl hsz hz hp (.lst ex2 es2) hu2 (fun _ => hpure) (m := es2.length) rfl hby hml
    simpa [jAV, jObj] using this
  | true =>
    simp only [jAV, jObj, cond_true] at hx hb
    cases hes2 : es2 with
    | nil =>
      subst hes2
      simp only [List.isEmpty_nil, Bool.and_self, List.append_nil, jObj, jAV, cond_true]
      intro H ι a w s Q hs g1 g2
      have hx' : look s.env x = some (.lst true es) := by rw [g1 x z43q, hx]
      have hy' : look s.env y = some (.lst ex2 []) := by rw [g1 y z43q, hy]
      have hb' : s.h b = some .free := by rw [g2 b (by simp), hb]
      obtain ⟨info, d, e1, e2, e3, e4, e5, e6⟩ := tyOf_spec (hT _ _ hi)
      obtain ⟨infou, du, f1, f2, f3, f4, f5, f6⟩ := tyOf_spec (hT _ _ hj)
      obtain ⟨info', d', e1', e2', e3', e4', e5', e6'⟩ := tyOf_spec (hT _ _ hi')
      have hd := tk_slice (P := P) (d := d) (e3 ▸ hk)
      subst hd
      have hd' := tk_slice (P := P) (d := d') (e3' ▸ hk')
      subst hd'
      have hvx := look_rel hs hx'
      have hvy := look_rel hs hy'
      generalize hva : a.eval x = va at hvx
      generalize hvb : a.eval y = vb at hvy
      obtain ⟨news, hsrcw, hnews⟩ := src_of hs.heap (SrcOf.lst ex2 []) hvy e2' hp (by intro cs h; cases h) w rfl
      rw [← f4] at hsrcw
      have hnn : news = [] := List.eq_nil_of_length_eq_zero (by rw [hsrcw.newsLen]; simp)
      subst hnn
      have hsame : hputs s.h [(b, .free)] = s.h := by
        funext c
        by_cases hc : c = b
        · subst hc; simp [hputs, hput_same, hb']
        · simp [hputs, hput_ne _ _ hc]
      have hexec : ∀ (v : Value) (w' : World), (Builtin.append_ #[t, t'] o.type #[va, vb]).run P w = .ok v w' → (execOp a.eval o).run P w = .ok (.value v) w' := fun v w' hrun => by
        simp only [execOp, ho, resolve, invoke, builtin, Sem.run_bind, Sem.run_pure, Result.andThen_ok, List.map_toArray, List.map_cons, List.map_nil, hva, hvb, hrun]
      have hrun : (Builtin.append_ #[t, t'] o.type #[va, vb]).run P w = .ok va w := by
        rcases hvx.lst_inv with ⟨rfl, ad, cap, rfl, h1, h2, h3, h4⟩ | ⟨hne, b0, off, cap, sz0, c, vals, rfl, hb0, hsz', hv, hr, hc1, hex, hcap, hmax⟩
        · have := h1 rfl
          subst this
          exact run_append_dry t t' o.type u infou e2 f1 ad vb hsrcw
        · have hsrc0 : Src P infou.size t' vb 0 [] w := hsrcw
          have h1 := hsrc0.len
          have h2 := hsrc0.cells
          rcases hsrcw.kind with ⟨e', hk⟩ | hk <;> simp [Builtin.append_, run_underlying e2, run_underlying hk, sizeOf, typeInfo, f1, h1, h2, hcap, storeCells]
      unfold Oper.wp
      rw [hexec _ _ hrun, hsame]
      exact ⟨va, H, ι, rfl, (fun x ex => by have := Option.some.inj ex; subst this; exact hvx), hs.heap, Step.refl _ _ _ _⟩
    | cons y0 r0 =>
      rw [← hes2]
      have hpos : 0 < es2.length := by rw [hes2]; simp
      have hie : es2.isEmpty = false := by rw [hes2]; rfl
      simp only [hie, Bool.and_false, jObj, jAV, cond_false]
      subst hsz
      refine OLoc.of_new hb (by simp) hp fun H ι a w s hs g1 g2 => ?_
      have hx' : look s.env x = some (.lst true es) := by rw [g1 x z43q, hx]
      have hy' : look s.env y = some (.lst ex2 es2) := by rw [g1 y z43q, hy]
      obtain ⟨info, d, e1, e2, e3, e4, e5, e6⟩ := tyOf_spec (hT _ _ hi)
      obtain ⟨infou, du, f1, f2, f3, f4, f5, f6⟩ := tyOf_spec (hT _ _ hj)
      obtain ⟨info', d', e1', e2', e3', e4', e5', e6'⟩ := tyOf_spec (hT _ _ hi')
      have hd := tk_slice (P := P) (d := d) (e3 ▸ hk)
      subst hd
      have hd' := tk_slice (P := P) (d := d') (e3' ▸ hk')
      subst hd'
      obtain ⟨z, hz1, hz2⟩ := zero_spec f6 hz hp
      have hzl : z.cells.size = j.size := by rw [← hz]; simpa using (allAV_rel (H := H) (ι := noLay) hz2).1.symm
      have hvx := look_rel hs hx'
      have hvy := look_rel hs hy'
      generalize hva : a.eval x = va at hvx
      generalize hvb : a.eval y = vb at hvy
      have hexec : ∀ (v : Value) (w' : World), (Builtin.append_ #[t, t'] o.type #[va, vb]).run P w = .ok v w' → (execOp a.eval o).run P w = .ok (.value v) w' := fun v w' hrun => by
        simp only [execOp, ho, resolve, invoke, builtin, Sem.run_bind, Sem.run_pure, Result.andThen_ok, List.map_toArray, List.map_cons, List.map_nil, hva, hvb, hrun]
      obtain ⟨news, hsrcw, hnews⟩ := src_of hs.heap (SrcOf.lst ex2 es2) hvy e2' hp hu2 w rfl
      rw [← f4] at hsrcw
      have hnl : news.length = es2.length * j.size := by rw [hsrcw.newsLen, f4]
      have h63 : ((es.length + es2.length : Nat) : Int) ≤ 9223372036854775807 := by
        have := hml; simp only [maxLen] at this; omega
      -- what stands there already
      obtain ⟨base, olds, hv, hold, hol, holdr⟩ : ∃ (base : Option Addr) (olds : List Value), va = .slice base es.length es.length ∧ (Builtin.firstCells infou.size es.length (.slice base es.length es.length)).run P w.drew = .ok olds.toArray w.drew ∧ olds.length = es.length * j.size ∧
          (∀ (i : Nat) (cs : List AV) (k : Nat) (x : AV), es[i]? = some cs → cs[k]? = some x → ∃ v, olds[i * j.size + k]? = some v ∧ Rel H noLay x v ∧ x.cell1 = true) := by
        rcases hvx.lst_inv with ⟨rfl, ad, cap, rfl, h1, h2, h3, h4⟩ | ⟨hne, b0, off, cap, sz0, c, vals, rfl, hb0, hsz', hv, hr, hc1, hex, hcap, hmax⟩
        · have := h1 rfl
          subst this
          refine ⟨ad, [], rfl, ?_, by simp, fun i cs k x h1 => by simp at h1⟩
          cases ad <;> simp [Builtin.firstCells, loadCells, loadCellsFrom]
        · have hcl := hex rfl
          subst hcl
          obtain ⟨TT, fr, hbw⟩ := hs.heap.know b0 c hb0
          have hss : sz0 = j.size := by
            cases es with
            | nil => exact absurd rfl hne
            | cons cs es => rw [← hsz' 0 cs (by simp), hu cs (by simp)]
          subst hss
          have hget : ∀ k, k < es.length * j.size → ∃ v, c[off + k]? = some v := fun k hk => by
            have hi : k / j.size < es.length := Nat.div_lt_of_lt_mul (by rw [Nat.mul_comm]; exact hk)
            have hm : k % j.size < j.size := Nat.mod_lt _ hp
            have hjj : k / j.size * j.size + k % j.size = k := by rw [Nat.mul_comm]; exact Nat.div_add_mod k j.size
            have h1 : es[k / j.size]? = some es[k / j.size] := List.getElem?_eq_getElem hi
            have h2 : (es[k / j.size])[k % j.size]? = some ((es[k / j.size])[k % j.size]'(by rw [hsz' _ _ h1]; exact hm)) := List.getElem?_eq_getElem _
            have := hv _ _ _ _ h1 h2
            rw [Nat.add_assoc, hjj] at this
            exact ⟨_, this⟩
          have hfit : off + es.length * j.size ≤ c.size := by
            rcases Nat.eq_zero_or_pos (es.length * j.size) with h0 | h0
            · have := List.length_pos_iff.2 hne
              have := Nat.mul_pos this hp
              omega
            · obtain ⟨v, hv⟩ := hget (es.length * j.size - 1) (by omega)
              have := (Array.getElem?_eq_some_iff.1 hv).1
              omega
          have hg : ∀ k, k < es.length * j.size → ((c.toList.drop off).take (es.length * j.size))[k]? = c[off + k]? := fun k hk => by
            rw [List.getElem?_take_of_lt hk, List.getElem?_drop, Array.getElem?_toList]
          have hl : ((c.toList.drop off).take (es.length * j.size)).length = es.length * j.size := by simp; omega
          refine ⟨_, (c.toList.drop off).take (es.length * j.size), rfl, ?_, hl, fun i cs k x h1 h2 => ?_⟩
          · rw [f4]
            refine run_firstCells_some (P := P) w.drew j.size es.length ⟨b0, off, none⟩ es.length es.length _ hl (fun k v hk => ?_)
            have hkl : k < es.length * j.size := by
              have := (List.getElem?_eq_some_iff.1 hk).1
              omega
            rw [hg k hkl] at hk
            rw [add_mk, World.cell?_drew, cell_row hbw]
            exact hk
          · have hi : i < es.length := (List.getElem?_eq_some_iff.1 h1).1
            have hkk : k < j.size := by rw [← hsz' i cs h1]; exact (List.getElem?_eq_some_iff.1 h2).1
            have h3 := hv i cs k x h1 h2
            exact ⟨_, by rw [hg _ (mul_add_lt_mul hi hkk), ← Nat.add_assoc]; exact h3, hr i cs k x h1 h2, hc1 i cs k x h1 h2⟩
      have hfit : Builtin.nextslicecap (es.length + es2.length) es.length * infou.bytes ≤ 281474976710656 := growslice_fits (by omega) (by rw [f5]; exact hby)
      have hrun := run_append_grow_src (P := P) w t t' o.type u infou z e2 f1 hz1 base es.length es.length olds hold vb es2.length news hsrcw (by omega) h63 hfit
      have hge := grownCap_ge w (es.length + es2.length) es.length u
      have hcm : grownCap w (es.length + es2.length) es.length u ≤ maxLen := grownCap_le_maxLen w _ es.length u hml
      generalize hcc : grownCap w (es.length + es2.length) es.length u = nc at *
      generalize hC : (olds ++ news).toArray ++ Builtin.zeroCells z.cells (nc - (es.length + es2.length)) = C at *
      have hCs : C.size = nc * j.size := by
        rw [← hC, Array.size_append, size_zeroCells, hzl]
        simp only [List.size_toArray, List.length_append, hol, hnl, ← Nat.add_mul]
        congr 1; omega
      have hCg : ∀ k, k < olds.length + news.length → C[k]? = (olds ++ news)[k]? := fun k hk => by
        rw [← hC, Array.getElem?_append_left (by simp; omega)]
        simp
      have hnewsp : ∀ (i : Nat) (cs : List AV) (k : Nat) (y : AV), es2[i]? = some cs → cs[k]? = some y → ∃ v, news[i * j.size + k]? = some v ∧ Rel H noLay y v ∧ y.cell1 = true := fun i cs k y h1 h2 => by
        obtain ⟨v, k1, k2, k3⟩ := hnews i cs k y h1 h2
        exact ⟨v, k1, pure1_rel (List.all_eq_true.1 (hpure cs (List.mem_of_getElem? h1)) y (List.mem_of_getElem? h2)) k2, k3⟩
      refine ⟨_, C, u, w.drew, rfl, rfl, rfl, ?_, rowCells_append hol hnl hu2 (fun i cs h => hu cs (List.mem_of_getElem? h)) holdr hnewsp hCg, hexec _ _ (hv ▸ hrun), ?_⟩
      · rw [List.length_append, hCs]; exact Nat.mul_le_mul_right _ hge
      · have := Rel.refL (H := H) (lput ι b ⟨w.heap.size, j.size, (es ++ es2).length, C.size⟩) b (es ++ es2).length 0 (es ++ es2).length nc _ (lput_same _ _ _) rfl (by omega) (by rw [List.length_append]; exact hge) (by simp [hCs]) hcm
        simpa using this
end
theorem Ghost.trans {s s' s'' : AState} (g1 : Ghost s s') (g2 : Ghost s' s'') : Ghost s s'' := fun H ι a w hs => by
  obtain ⟨H1, ι1, h1, s1⟩ := g1 H ι a w hs
  obtain ⟨H2, ι2, h2, s2⟩ := g2 H1 ι1 a w h1
  exact ⟨H2, ι2, h2, Step.trans hs.heap s1 h1.heap s2⟩
theorem nil_empty {H : Know} {ι : Lay} {v : Value} (h : Rel H ι .nil v) : Rel H ι (.lst false []) v := by
  rw [h.nil_inv]; exact .lst0 _ _ _ _ (fun h => by cases h) (Nat.zero_le _) (fun _ => rfl) trivial
theorem HSub.from_rm {h : AHeap} {k b : Nat} (hh : HSub (hFrom k) h) (hb : b < k) : HSub (hFrom k) (hrm h b) := fun c x hx => by
  have hne : c ≠ b := fun e => by
    subst e
    have h1 : Nat.blt c k = true := by rw [Nat.blt_eq]; exact hb
    simp only [hFrom, h1, cond_true] at hx
    cases hx
  rw [hrm_ne _ hne]; exact hh c x hx
def Block.nexts (b : Block) : List Int := bif b.fin == 1 then [b.to] else bif b.fin == 2 then [b.to, b.els] else []
def BFunc.nexts (f : BFunc) : List (List Int) := f.blocks.map Block.nexts
structure DS where
  been : List Bool
  way : List (Int × Int)
def rowAt (next : List (List Int)) (b : Int) : List Int := (next[b.toNat]?).getD []
def unb (l : List Bool) : Nat := (l.map fun x => bif x then 0 else 1).sum
structure DS.ok (next : List (List Int)) (s : DS) : Prop where
  len : s.been.length = next.length
  way : ∀ p ∈ s.way, 0 ≤ p.1 ∧ p.1 < next.length ∧ 0 ≤ p.2 ∧ p.2 ≤ (rowAt next p.1).length
def wcell (p : Int × Int) : List AV := [.int .i64 p.1, .int .i64 p.2]
structure WayIn (n : Nat) (s : DS) (es : List (List AV)) : Prop where
  le : s.way.length ≤ es.length
  eq : es.take s.way.length = s.way.map wcell
  cap : es.length + unb s.been ≤ n
def need (v : Nat) : List Tac → Bool → Bool
  | [], z => z
  | t :: r, z => t.uses.contains (v : Int) || (!(t.sets == (v : Int)) && need v r z)
def endz (x : Block) (v : Nat) : Bool := x.fin == 2 && x.v == (v : Int)
inductive LiveIn (f : BFunc) (v : Nat) : Nat → Prop
  | here {c : Nat} {x : Block} : f.blocks[c]? = some x → need v x.ins (endz x v) = true → LiveIn f v c
  | thru {c : Nat} {d : Int} {x : Block} : f.blocks[c]? = some x → need v x.ins true = true → d ∈ x.nexts → LiveIn f v d.toNat → LiveIn f v c
open Classical in
noncomputable def inB (f : BFunc) (v c : Nat) : Bool := decide (LiveIn f v c)
noncomputable def outB (f : BFunc) (x : Block) (v : Nat) : Bool := x.nexts.any fun d => inB f v d.toNat
noncomputable def endB (f : BFunc) (x : Block) (v : Nat) : Bool := endz x v || outB f x v
theorem inB_iff {f : BFunc} {v c : Nat} : inB f v c = true ↔ LiveIn f v c := by unfold inB; simp
theorem outB_iff {f : BFunc} {x : Block} {v : Nat} : outB f x v = true ↔ ∃ d ∈ x.nexts, LiveIn f v d.toNat := by
  unfold outB
  rw [List.any_eq_true]
  exact ⟨fun ⟨d, h1, h2⟩ => ⟨d, h1, inB_iff.1 h2⟩, fun ⟨d, h1, h2⟩ => ⟨d, h1, inB_iff.2 h2⟩⟩
def Tac.pure (t : Tac) : Bool := t.op == 1 || (t.op == 2 || (t.op == 4 || (t.op == 3 && (!(t.k == 7) && !(t.k == 8)))))
def Block.mid (x : Block) (l : List Tac) : Block := { x with ins := l }
def BFunc.putB (f : BFunc) (c : Nat) (x : Block) : BFunc := { f with blocks := f.blocks.set c x }
structure CutAt (f g : BFunc) (c : Nat) (x : Block) (l1 : List Tac) (t : Tac) (l2 : List Tac) (v : Nat) : Prop where
  hx : f.blocks[c]? = some x
  hi : x.ins = l1 ++ t :: l2
  pure : t.pure = true
  hv : t.sets = (v : Int)
  dead : need v l2 (endB f x v) = false
  hg : g = f.putB c (x.mid (l1 ++ l2))
def Cut (f g : BFunc) : Prop := ∃ c x l1 t l2 v, CutAt f g c x l1 t l2 v
inductive Cuts : BFunc → BFunc → Prop
  | refl (f : BFunc) : Cuts f f
  | step {f g h : BFunc} : Cut f g → Cuts g h → Cuts f h
theorem Cuts.trans {f g h : BFunc} (h1 : Cuts f g) (h2 : Cuts g h) : Cuts f h := by
  induction h1 with
  | refl => exact h2
  | step a _ ih => exact .step a (ih h2)
theorem Cuts.one {f g : BFunc} (h : Cut f g) : Cuts f g := .step h (.refl g)
end Go.Proofs.Ytmfihmkopmgelaa.Sv

namespace Go.Proofs.Ytmfihmkopmgelaa.Sv
open Go
inductive CE where
  | mk (kind op num slot size : Int) (kids : List CE)
inductive CS where
  | mk (kind slot size : Int) (es : List CE) (thn els : List CS)
structure CFn where
  params : Int
  slots : Int
  first : Int
  word : Bool
  body : List CS
structure Core where
  words : Int
  funcs : List CFn
namespace CE
def kind : CE → Int | mk k _ _ _ _ _ => k
def op : CE → Int | mk _ o _ _ _ _ => o
def num : CE → Int | mk _ _ n _ _ _ => n
def slot : CE → Int | mk _ _ _ s _ _ => s
def size : CE → Int | mk _ _ _ _ z _ => z
def kids : CE → List CE | mk _ _ _ _ _ l => l
end CE
namespace CS
def kind : CS → Int | mk k _ _ _ _ _ => k
def slot : CS → Int | mk _ s _ _ _ _ => s
def size : CS → Int | mk _ _ z _ _ _ => z
def es : CS → List CE | mk _ _ _ l _ _ => l
def thn : CS → List CS | mk _ _ _ _ l _ => l
def els : CS → List CS | mk _ _ _ _ _ l => l
end CS
mutual
def CE.parts : CE → Nat
  | .mk _ _ _ _ _ kids => 1 + CE.partsL kids
def CE.partsL : List CE → Nat
  | [] => 0
  | e :: l => e.parts + CE.partsL l
end
mutual
def CS.parts : CS → Nat
  | .mk _ _ _ es thn els => 1 + CE.partsL es + CS.partsL thn + CS.partsL els
def CS.partsL : List CS → Nat
  | [] => 0
  | s :: l => s.parts + CS.partsL l
end
def Core.parts (c : Core) : Nat := (c.funcs.map fun f => CS.partsL f.body).sum
structure Bd where
  regs : Int
  blocks : List Block
  now : Nat
abbrev blk0 : Block := ⟨[], 3, 0, 0, 0⟩
def Bd.upd (b : Bd) (g : Block → Block) : Bd := { b with blocks := b.blocks.modify b.now g }
def Bd.put (b : Bd) (t : Tac) : Bd := { b.upd (fun x => x.mid (x.ins ++ [t])) with regs := max b.regs (t.d + 1) }
def Bd.opened (b : Bd) : Bd := { b with blocks := b.blocks ++ [blk0] }
def Bd.jump (b : Bd) (to : Nat) : Bd := b.upd fun x => { x with fin := 1, to := (to : Int) }
def Bd.fork (b : Bd) (v to els : Nat) : Bd := b.upd fun x => { x with fin := 2, v := (v : Int), to := (to : Int), els := (els : Int) }
def Bd.go (b : Bd) (n : Nat) : Bd := { b with now := n }
def Bd.ret (b : Bd) : Bd := b.upd fun x => { x with fin := 3 }
def Bd.inside (b : Bd) (i to : Nat) (g : Bd → Bd) : Bd := ((g (b.go i)).jump to).go b.now
abbrev iNum (d : Nat) (n : Int) : Tac := ⟨1, d, 0, 0, 0, 0, 0, n⟩
abbrev iBin (op : Int) (d x y : Nat) : Tac := ⟨3, d, x, y, op, 0, 0, 0⟩
abbrev iLoad (d : Nat) (w : Int) : Tac := ⟨4, d, 0, 0, 0, w, 0, 0⟩
abbrev iStore (w : Int) (a : Nat) : Tac := ⟨5, 0, a, 0, 0, w, 0, 0⟩
abbrev iALoad (d a : Nat) (w z : Int) : Tac := ⟨6, d, a, 0, 0, w, z, 0⟩
abbrev iAStore (a b : Nat) (w z : Int) : Tac := ⟨7, 0, a, b, 0, w, z, 0⟩
abbrev iGet (d : Nat) : Tac := ⟨8, d, 0, 0, 0, 0, 0, 0⟩
abbrev iPut (a : Nat) : Tac := ⟨9, 0, a, 0, 0, 0, 0, 0⟩
abbrev iCall (g : Int) : Tac := ⟨10, 0, 0, 0, 0, g, 0, 0⟩
def CE.flagged (e : CE) : Bool := e.kind == 7 || (e.kind == 8 || (e.kind == 9 || (e.kind == 6 && (e.op == 14 || e.op == 15))))
def Bd.not (b : Bd) (d : Nat) : Bd := (b.put (iNum (d + 1) 0)).put (iBin 15 d d (d + 1))
def Bd.truth (b : Bd) (e : CE) (d : Nat) : Bd := bif e.flagged then b else (b.not d).put (iBin 15 d d (d + 1))
def Bd.args (b : Bd) (first : Int) (d : Nat) : Nat → Bd
  | 0 => b
  | n + 1 => (b.args first d n).put (iStore (first + n) (d + n))
def Core.first (c : Core) (g : Int) : Int := ((c.funcs[g.toNat]?).map CFn.first).getD 0
def Bd.called (b : Bd) (c : Core) (g : Int) (n d : Nat) : Bd := (b.args (c.first g) d n).put (iCall g)
def Bd.either0 (b : Bd) (k : Int) (d : Nat) : Bd := bif k == 8 then b.opened.opened.fork d b.blocks.length (b.blocks.length + 1) else b.opened.opened.fork d (b.blocks.length + 1) b.blocks.length
mutual
def CE.build (c : Core) : CE → Nat → Bd → Bd
  | .mk k o n s z kids, d, b =>
    if k = 1 then b.put (iNum d n)
    else if k = 2 then b.put (iLoad d s)
    else if k = 3 then (CE.buildL c kids d b).put (iALoad d d s z)
    else if k = 4 then ((CE.buildL c kids d b).called c s kids.length d).put (iLoad d c.words)
    else if k = 5 then b.put (iGet d)
    else if k = 6 then (CE.buildL c kids d b).put (iBin o d d (d + 1))
    else if k = 7 then (CE.buildL c kids d b).not d
    else if k = 8 ∨ k = 9 then CE.buildE c k kids d b
    else b
def CE.buildL (c : Core) : List CE → Nat → Bd → Bd
  | [], _, b => b
  | e :: l, d, b => CE.buildL c l (d + 1) (e.build c d b)
def CE.buildE (c : Core) (k : Int) : List CE → Nat → Bd → Bd
  | [], _, b => b
  | e :: l, d, b => CE.buildR c l d ((e.build c d b).truth e d) k
def CE.buildR (c : Core) : List CE → Nat → Bd → Int → Bd
  | [], _, b, _ => b
  | e :: _, d, b, k => ((b.either0 k d).inside b.blocks.length (b.blocks.length + 1) fun x => (e.build c d x).truth e d).go (b.blocks.length + 1)
end
def Bd.leave (b : Bd) (c : Core) (w : Bool) : Bd := (bif w then (b.put (iNum 0 0)).put (iStore c.words 0) else b).ret
def Bd.next (b : Bd) : Bd := b.opened.go b.blocks.length
mutual
def CS.build (c : Core) (w : Bool) : CS → Bd → Bd
  | .mk k s z es thn els, b =>
    if k = 1 then (CE.buildL c es 0 b).put (iStore s 0)
    else if k = 2 then (CE.buildL c es 0 b).put (iAStore 0 1 s z)
    else if k = 3 then (CE.buildL c es 0 b).put (iPut 0)
    else if k = 6 then (CE.buildL c es 0 b).called c s es.length 0
    else if k = 7 then (if es = [] then b.leave c w else (CE.buildL c es 0 b).put (iStore c.words 0)).next
    else if k = 4 then
      let b1 := CE.buildL c es 0 b
      let n := b1.blocks.length
      let b2 := if els = [] then (b1.opened.opened).fork 0 n (n + 1) else (b1.opened.opened.opened.inside (n + 2) (n + 1) fun x => CS.buildL c w els x).fork 0 n (n + 2)
      (b2.inside n (n + 1) fun x => CS.buildL c w thn x).go (n + 1)
    else if k = 5 then
      let n := b.blocks.length
      let b1 := ((b.opened.opened.opened).inside b.now n fun x => x).go n
      let b2 := (CE.buildL c es 0 b1).fork 0 (n + 1) (n + 2)
      (b2.inside (n + 1) n fun x => CS.buildL c w thn x).go (n + 2)
    else b
def CS.buildL (c : Core) (w : Bool) : List CS → Bd → Bd
  | [], b => b
  | s :: l, b => CS.buildL c w l (s.build c w b)
end
end Go.Proofs.Ytmfihmkopmgelaa.Sv

namespace Go.Proofs.Ytmfihmkopmgelaa.Sv
open Go
structure CM where
  m : Mach
  over : Bool
  val : Int
def CM.put (c : CM) (m : Mach) : CM := { c with m := m }
def CM.fin (c : CM) : Int := c.m.fin
def zf (b : Bool) : Int := bif b then 1 else 0
abbrev CallC := Int → List Int → CM → Int × CM
section
variable (call : CallC) (s : ByteArray)
mutual
def CE.ev : CE → CM → Int × CM
  | .mk k o n sl z kids, c =>
    if k = 1 then (n, c)
    else if k = 2 then (rget c.m.words sl, c)
    else if k = 3 then CE.evI sl z kids c
    else if k = 4 then CE.evC sl kids [] c
    else if k = 5 then (bif decide (c.m.read < s.size) then (((inAt s c.m.read).toNat : Int), c.put { c.m with read := c.m.read + 1 }) else (256, c))
    else CE.evK k o kids c
def CE.evI (sl z : Int) : List CE → CM → Int × CM
  | [], c => (0, c)
  | e :: _, c => match e.ev c with
    | (i, c1) => bif c1.fin == 0 then (bif decide (i ≥ z) then (0, c1.put { c1.m with fin := 3 }) else (rget c1.m.words (sl + i), c1)) else (0, c1)
def CE.evC (f : Int) : List CE → List Int → CM → Int × CM
  | [], args, c => call f args c
  | e :: l, args, c => match e.ev c with
    | (x, c1) => bif c1.fin == 0 then CE.evC f l (args ++ [x]) c1 else (0, c1)
def CE.evK (k o : Int) : List CE → CM → Int × CM
  | [], c => (0, c)
  | e :: l, c => match e.ev c with
    | (x, c1) => bif c1.fin == 0 then (bif k == 7 then (zf (x == 0), c1) else bif k == 8 && x == 0 then (0, c1) else bif k == 9 && !(x == 0) then (1, c1) else CE.evR k o l x c1) else (0, c1)
def CE.evR (k o : Int) : List CE → Int → CM → Int × CM
  | [], _, c => (0, c)
  | e :: _, x, c => match e.ev c with
    | (y, c1) => bif k == 8 || k == 9 then (zf (!(y == 0)), c1) else bif c1.fin == 0 then (bif (wapp o x y).2 == 0 then ((wapp o x y).1, c1) else ((wapp o x y).1, c1.put { c1.m with fin := 2 })) else (0, c1)
end
end
def tickC (fuel : Int) (c : CM) : Bool × CM := ((mstep fuel c.m).1, c.put (mstep fuel c.m).2)
def whileC (fuel : Int) (cond : CM → Int × CM) (body : CM → CM) : Nat → CM → CM
  | 0, c => c.put { c.m with fin := 5 }
  | g + 1, c => bif c.fin == 0 && !c.over then (bif (tickC fuel c).1 then (match cond (tickC fuel c).2 with
      | (x, c1) => bif c1.fin == 0 && !(x == 0) then whileC fuel cond body g (body c1) else c1) else (tickC fuel c).2) else c
def CE.evH (call : CallC) (s : ByteArray) : List CE → CM → Int × CM
  | [], c => (0, c)
  | e :: _, c => e.ev call s c
section
variable (call : CallC) (s : ByteArray) (fuel : Int)
mutual
def CS.run : CS → CM → CM
  | .mk k sl z es thn els, c =>
    if k = 6 then (CE.evC call s sl es [] c).2
    else if k = 5 then whileC fuel (CE.evH call s es) (fun c => CS.runL thn c) (fuel.toNat + 1) c
    else match CE.evH call s es c with
    | (x, c1) =>
      bif c1.fin == 0 then
        (if k = 7 then { c1 with over := true, val := x }
        else if k = 1 then c1.put { c1.m with words := rset c1.m.words sl x }
        else if k = 2 then (match CE.evH call s (es.drop 1) c1 with
          | (y, c2) => bif c2.fin == 0 then (bif decide (x ≥ z) then c2.put { c2.m with fin := 3 } else c2.put { c2.m with words := rset c2.m.words (sl + x) y }) else c2)
        else if k = 3 then (bif decide (c1.m.out.length ≥ 65536) then c1.put { c1.m with fin := 4 } else c1.put { c1.m with out := c1.m.out ++ [byteOf x] })
        else (bif x == 0 then CS.runL els c1 else CS.runL thn c1))
      else c1
def CS.runL : List CS → CM → CM
  | [], c => c
  | st :: l, c => bif c.fin == 0 && !c.over then CS.runL l (st.run c) else c
end
end
def zeroW (w : List Int) (a : Int) : Nat → List Int
  | 0 => w
  | n + 1 => rset (zeroW w a n) (a + n) 0
def argsW (w : List Int) (a : Int) (l : List Int) : Nat → List Int
  | 0 => w
  | n + 1 => rset (argsW w a l n) (a + n) (rget l n)
def cfun (C : Core) (s : ByteArray) (fuel : Int) : Nat → CallC
  | 0, _, _, c => (0, c)
  | n + 1, f, args, c =>
    bif (tickC fuel c).1 then
      (match C.funcs[f.toNat]? with
      | none => (0, c)
      | some g =>
        match CS.runL (cfun C s fuel n) s fuel g.body ((tickC fuel c).2.put { (tickC fuel c).2.m with words := argsW (zeroW c.m.words g.first g.slots.toNat) g.first args args.length }) with
        | c1 => bif c1.over then (c1.val, { c1 with over := false }) else (0, c1))
    else (0, (tickC fuel c).2)
def c0 (C : Core) : CM := ⟨⟨List.replicate C.words.toNat 0, [], 0, 0, 0⟩, false, 0⟩
def crun (C : Core) (s : ByteArray) (fuel : Int) : Mach :=
  match C.funcs[C.funcs.length - 1]? with
  | none => ⟨[], [], 0, 0, 0⟩
  | some g =>
    match (CS.runL (cfun C s fuel (C.funcs.length - 1)) s fuel g.body (c0 C)).m with
    | m => bif m.fin == 0 then { m with fin := 1 } else m
structure Mach.Le (m m' : Mach) : Prop where
  words : m'.words = m.words
  out : m'.out = m.out
  read : m'.read = m.read
  fin : m'.fin = m.fin
  steps : m'.steps ≤ m.steps
def Mach.Sim (x y : Mach) : Prop := x.fin = 5 ∨ x.Le y
theorem Mach.Le.refl (m : Mach) : m.Le m := ⟨rfl, rfl, rfl, rfl, Nat.le_refl _⟩
theorem Mach.Le.put {m m' : Mach} (h : m.Le m') (w : List Int) (o : List UInt8) (r : Nat) (f : Int) : Mach.Le ⟨w, o, r, m.steps, f⟩ ⟨w, o, r, m'.steps, f⟩ := ⟨rfl, rfl, rfl, rfl, h.steps⟩
section
variable {call call' : Int → Mach → Mach} {s : ByteArray} {fuel : Int}
def gasOk (fuel : Int) (g : Nat) (m : Mach) : Prop := fuel.toNat < m.steps + g
end
section
variable {call : Int → Mach → Mach} {s : ByteArray} {fuel : Int}
theorem mblk_gas (hcs : ∀ i m, m.steps ≤ (call i m).steps) {f : BFunc} : ∀ (g g' : Nat) (i : Int) (regs : List Int) (m : Mach), gasOk fuel g m → gasOk fuel g' m → 0 < g → 0 < g' → mblk call s fuel f g i regs m = mblk call s fuel f g' i regs m
  | 0, _, _, _, _, _, _, h, _ => absurd h (by omega)
  | _ + 1, 0, _, _, _, _, _, _, h => absurd h (by omega)
  | g + 1, g' + 1, i, regs, m, h1, h2, _, _ => by
    unfold mblk
    cases hk : f.blocks[i.toNat]? with
    | none => rfl
    | some k =>
      have hst := mins_steps (s := s) (fuel := fuel) hcs k.ins regs m
      dsimp only
      generalize mins call s fuel k.ins regs m = X at hst ⊢
      obtain ⟨X1, X2, X3⟩ := X
      dsimp only at hst ⊢
      cases X1 with
      | false => rfl
      | true =>
        simp only [cond_true]
        cases hm : (mstep fuel X3).1 && !(k.fin == 3) with
        | false => rfl
        | true =>
          simp only [cond_true]
          rw [Bool.and_eq_true] at hm
          obtain ⟨e1, e2⟩ := mstep_true hm.1
          unfold gasOk at h1 h2
          refine mblk_gas hcs g g' _ _ _ ?_ ?_ ?_ ?_
          · unfold gasOk; rw [e2]; dsimp only; omega
          · unfold gasOk; rw [e2]; dsimp only; omega
          · omega
          · omega
end
abbrev Pos := Nat × Nat
abbrev nx (a : Pos) : Pos := (a.1, a.2 + 1)
def InsAt (G : List Block) (a : Pos) (t : Tac) : Prop := ∃ x, G[a.1]? = some x ∧ x.ins[a.2]? = some t
def EndAt (G : List Block) (a : Pos) (fin v to els : Int) : Prop := ∃ x, G[a.1]? = some x ∧ x.ins.length = a.2 ∧ x.fin = fin ∧ x.v = v ∧ x.to = to ∧ x.els = els
def xAt (call : Int → Mach → Mach) (s : ByteArray) (fuel : Int) (f : BFunc) (a : Pos) (regs : List Int) (m : Mach) : Mach :=
  match f.blocks[a.1]? with
  | none => m
  | some k =>
    let p := mins call s fuel (k.ins.drop a.2) regs m
    bif p.1 then (bif (mstep fuel p.2.2).1 && !(k.fin == 3) then mblk call s fuel f (fuel.toNat + 1) (k.next p.2.1) p.2.1 (mstep fuel p.2.2).2 else (mstep fuel p.2.2).2)
    else p.2.2
section
variable {call : Int → Mach → Mach} {s : ByteArray} {fuel : Int} {f : BFunc}
theorem mblk_x (hcs : ∀ i m, m.steps ≤ (call i m).steps) {i : Nat} {regs : List Int} {m : Mach} : mblk call s fuel f (fuel.toNat + 1) (i : Int) regs m = xAt call s fuel f (i, 0) regs m := by
  unfold mblk xAt
  rw [Int.toNat_natCast]
  dsimp only
  cases hk : f.blocks[i]? with
  | none => rfl
  | some k =>
    have hst := mins_steps (s := s) (fuel := fuel) hcs k.ins regs m
    simp only [List.drop_zero]
    generalize mins call s fuel k.ins regs m = X at hst ⊢
    obtain ⟨X1, X2, X3⟩ := X
    dsimp only at hst ⊢
    cases X1 with
    | false => rfl
    | true =>
      simp only [cond_true]
      cases hm : (mstep fuel X3).1 && !(k.fin == 3) with
      | false => rfl
      | true =>
        simp only [cond_true]
        rw [Bool.and_eq_true] at hm
        obtain ⟨e1, e2⟩ := mstep_true hm.1
        refine mblk_gas hcs _ _ _ _ _ ?_ ?_ ?_ ?_
        · unfold gasOk; rw [e2]; dsimp only; omega
        · unfold gasOk; rw [e2]; dsimp only; omega
        · omega
        · omega
theorem mstep_lt {m : Mach} (h : m.steps < fuel) : mstep fuel m = (true, { m with steps := m.steps + 1 }) := by
  unfold mstep
  rw [decide_eq_false (by omega)]; rfl
theorem x_ins {a : Pos} {t : Tac} {regs : List Int} {m : Mach} (ht : InsAt f.blocks a t) (hs : m.steps < fuel) (h0 : (mone call s t regs { m with steps := m.steps + 1 }).2.fin = 0) :
    xAt call s fuel f a regs m = xAt call s fuel f (nx a) (mone call s t regs { m with steps := m.steps + 1 }).1 (mone call s t regs { m with steps := m.steps + 1 }).2 := by
  obtain ⟨k, hk, hp⟩ := ht
  have hd : k.ins.drop a.2 = t :: k.ins.drop (a.2 + 1) := by
    rw [List.drop_eq_getElem_cons (List.getElem?_eq_some_iff.1 hp).1, (List.getElem?_eq_some_iff.1 hp).2]
  unfold xAt
  simp only [hk, hd, mins, mstep_lt hs, cond_true]
  rw [h0]
  rfl
theorem x_fin {a : Pos} {t : Tac} {regs : List Int} {m : Mach} (ht : InsAt f.blocks a t) (hs : m.steps < fuel) (h0 : (mone call s t regs { m with steps := m.steps + 1 }).2.fin ≠ 0) :
    xAt call s fuel f a regs m = (mone call s t regs { m with steps := m.steps + 1 }).2 := by
  obtain ⟨k, hk, hp⟩ := ht
  have hd : k.ins.drop a.2 = t :: k.ins.drop (a.2 + 1) := by
    rw [List.drop_eq_getElem_cons (List.getElem?_eq_some_iff.1 hp).1, (List.getElem?_eq_some_iff.1 hp).2]
  unfold xAt
  simp only [hk, hd, mins, mstep_lt hs, cond_true]
  rw [show ((mone call s t regs { m with steps := m.steps + 1 }).2.fin == 0) = false by simpa using h0]
  rfl
theorem x_end (hcs : ∀ i m, m.steps ≤ (call i m).steps) {a : Pos} {fin v to els : Int} {regs : List Int} {m : Mach} (ht : EndAt f.blocks a fin v to els) (hs : m.steps < fuel) (h3 : fin ≠ 3) {n : Nat}
    (hn : (bif fin == 2 && rget regs v == 0 then els else to) = (n : Int)) : xAt call s fuel f a regs m = xAt call s fuel f (n, 0) regs { m with steps := m.steps + 1 } := by
  obtain ⟨k, hk, hp, rfl, rfl, rfl, rfl⟩ := ht
  have hd : k.ins.drop a.2 = [] := by rw [← hp, List.drop_length]
  rw [← mblk_x hcs]
  conv => lhs; unfold xAt
  simp only [hk, hd, mins, mstep_lt hs, cond_true]
  rw [show (k.fin == 3) = false by simpa using h3]
  simp only [Bool.not_false, Bool.and_self, cond_true]
  unfold Block.next
  rw [hn]
theorem x_ret {a : Pos} {v to els : Int} {regs : List Int} {m : Mach} (ht : EndAt f.blocks a 3 v to els) (hs : m.steps < fuel) : xAt call s fuel f a regs m = { m with steps := m.steps + 1 } := by
  obtain ⟨k, hk, hp, h3, _⟩ := ht
  have hd : k.ins.drop a.2 = [] := by rw [← hp, List.drop_length]
  unfold xAt
  simp only [hk, hd, mins, mstep_lt hs, cond_true]
  rw [h3]; rfl
end
structure Cl where
  c : Int → Int → Mach → Mach
  st : ∀ fu i m, m.steps ≤ (c fu i m).steps
structure Goes (C : Cl) (s : ByteArray) (f : BFunc) (a : Pos) (regs : List Int) (m : Mach) (b : Pos) (regs' : List Int) (m' : Mach) : Prop where
  le : m.steps ≤ m'.steps
  eq : ∀ fu : Nat, m'.steps ≤ fu → xAt (C.c fu) s fu f a regs m = xAt (C.c fu) s fu f b regs' m'
structure Stops (C : Cl) (s : ByteArray) (f : BFunc) (a : Pos) (regs : List Int) (m m' : Mach) : Prop where
  le : m.steps ≤ m'.steps
  eq : ∀ fu : Nat, m'.steps ≤ fu → xAt (C.c fu) s fu f a regs m = m'
section
variable {C : Cl} {s : ByteArray} {f : BFunc}
theorem Goes.refl (a : Pos) (regs : List Int) (m : Mach) : Goes C s f a regs m a regs m := ⟨Nat.le_refl _, fun _ _ => rfl⟩
theorem Goes.trans {a b c : Pos} {r r1 r2 : List Int} {m m1 m2 : Mach} (h1 : Goes C s f a r m b r1 m1) (h2 : Goes C s f b r1 m1 c r2 m2) : Goes C s f a r m c r2 m2 :=
  ⟨Nat.le_trans h1.le h2.le, fun fu h => (h1.eq fu (Nat.le_trans h2.le h)).trans (h2.eq fu h)⟩
theorem Goes.stops {a b : Pos} {r r1 : List Int} {m m1 m2 : Mach} (h1 : Goes C s f a r m b r1 m1) (h2 : Stops C s f b r1 m1 m2) : Stops C s f a r m m2 :=
  ⟨Nat.le_trans h1.le h2.le, fun fu h => (h1.eq fu (Nat.le_trans h2.le h)).trans (h2.eq fu h)⟩
theorem goes_ins {a : Pos} {t : Tac} {regs r' : List Int} {m m' : Mach} (ht : InsAt f.blocks a t) (hm : ∀ call, mone call s t regs { m with steps := m.steps + 1 } = (r', m')) (h0 : m'.fin = 0) (hst : m'.steps = m.steps + 1) : Goes C s f a regs m (nx a) r' m' :=
  ⟨by omega, fun fu h => by
    have := x_ins (call := C.c fu) (s := s) (fuel := fu) (regs := regs) (m := m) ht (by omega) (by rw [hm]; exact h0)
    rw [this, hm]⟩
theorem stops_ins {a : Pos} {t : Tac} {regs r' : List Int} {m m' : Mach} (ht : InsAt f.blocks a t) (hm : ∀ call, mone call s t regs { m with steps := m.steps + 1 } = (r', m')) (h0 : m'.fin ≠ 0) (hst : m'.steps = m.steps + 1) : Stops C s f a regs m m' :=
  ⟨by omega, fun fu h => by
    have := x_fin (call := C.c fu) (s := s) (fuel := fu) (regs := regs) (m := m) ht (by omega) (by rw [hm]; exact h0)
    rw [this, hm]⟩
theorem goes_call {a : Pos} {g : Int} {regs : List Int} {m m' : Mach} (ht : InsAt f.blocks a (iCall g)) (hm : ∀ fu : Nat, m'.steps ≤ fu → C.c fu g { m with steps := m.steps + 1 } = m') (h0 : m'.fin = 0) (hst : m.steps + 1 ≤ m'.steps) : Goes C s f a regs m (nx a) regs m' :=
  ⟨by omega, fun fu h => by
    have e : mone (C.c fu) s (iCall g) regs { m with steps := m.steps + 1 } = (regs, m') := by
      rw [mone10 rfl, hm fu h]
    have := x_ins (call := C.c fu) (s := s) (fuel := fu) (regs := regs) (m := m) ht (by omega) (by rw [e]; exact h0)
    rw [this, e]⟩
theorem stops_call {a : Pos} {g : Int} {regs : List Int} {m m' : Mach} (ht : InsAt f.blocks a (iCall g)) (hm : ∀ fu : Nat, m'.steps ≤ fu → C.c fu g { m with steps := m.steps + 1 } = m') (h0 : m'.fin ≠ 0) (hst : m.steps + 1 ≤ m'.steps) : Stops C s f a regs m m' :=
  ⟨by omega, fun fu h => by
    have e : mone (C.c fu) s (iCall g) regs { m with steps := m.steps + 1 } = (regs, m') := by
      rw [mone10 rfl, hm fu h]
    have := x_fin (call := C.c fu) (s := s) (fuel := fu) (regs := regs) (m := m) ht (by omega) (by rw [e]; exact h0)
    rw [this, e]⟩
theorem goes_jump {a : Pos} {to : Nat} {regs : List Int} {m : Mach} (ht : EndAt f.blocks a 1 0 to 0) : Goes C s f a regs m (to, 0) regs { m with steps := m.steps + 1 } :=
  ⟨Nat.le_succ _, fun fu h => x_end (C.st fu) ht (by show (m.steps : Int) < fu; have : m.steps + 1 ≤ fu := h; omega) (by decide) rfl⟩
theorem goes_fork {a : Pos} {v to els : Nat} {regs : List Int} {m : Mach} (ht : EndAt f.blocks a 2 v to els) : Goes C s f a regs m (if rget regs v = 0 then els else to, 0) regs { m with steps := m.steps + 1 } :=
  ⟨Nat.le_succ _, fun fu h => x_end (C.st fu) ht (by show (m.steps : Int) < fu; have : m.steps + 1 ≤ fu := h; omega) (by decide) (by
    by_cases e : rget regs v = 0
    · rw [if_pos e, e]; rfl
    · rw [if_neg e, show (rget regs v == 0) = false by simpa using e]; rfl)⟩
theorem stops_ret {a : Pos} {v to els : Int} {regs : List Int} {m : Mach} (ht : EndAt f.blocks a 3 v to els) : Stops C s f a regs m { m with steps := m.steps + 1 } :=
  ⟨Nat.le_succ _, fun fu h => x_ret ht (by show (m.steps : Int) < fu; have : m.steps + 1 ≤ fu := h; omega)⟩
end
def NotAt (G : List Block) (a : Pos) (d : Nat) (b : Pos) : Prop := InsAt G a (iNum (d + 1) 0) ∧ InsAt G (nx a) (iBin 15 d d (d + 1)) ∧ b = nx (nx a)
def TruthAt (G : List Block) (e : CE) (a : Pos) (d : Nat) (b : Pos) : Prop := if e.flagged = true then b = a else ∃ a1, NotAt G a d a1 ∧ InsAt G a1 (iBin 15 d d (d + 1)) ∧ b = nx a1
def CalledAt (G : List Block) (a : Pos) (first g : Int) (n d : Nat) (b : Pos) : Prop := (∀ i, i < n → InsAt G (a.1, a.2 + i) (iStore (first + i) (d + i))) ∧ InsAt G (a.1, a.2 + n) (iCall g) ∧ b = (a.1, a.2 + n + 1)
mutual
def CE.code (c : Core) (G : List Block) : CE → Nat → Pos → Pos → Prop
  | .mk k o n s z kids, d, a, b =>
    if k = 1 then InsAt G a (iNum d n) ∧ b = nx a
    else if k = 2 then InsAt G a (iLoad d s) ∧ b = nx a
    else if k = 3 then ∃ a1, CE.codeL c G kids d a a1 ∧ InsAt G a1 (iALoad d d s z) ∧ b = nx a1
    else if k = 4 then ∃ a1 a2, CE.codeL c G kids d a a1 ∧ CalledAt G a1 (c.first s) s kids.length d a2 ∧ InsAt G a2 (iLoad d c.words) ∧ b = nx a2
    else if k = 5 then InsAt G a (iGet d) ∧ b = nx a
    else if k = 6 then ∃ a1, CE.codeL c G kids d a a1 ∧ InsAt G a1 (iBin o d d (d + 1)) ∧ b = nx a1
    else if k = 7 then ∃ a1, CE.codeL c G kids d a a1 ∧ NotAt G a1 d b
    else if k = 8 ∨ k = 9 then CE.codeX c G k kids d a b
    else False
def CE.codeL (c : Core) (G : List Block) : List CE → Nat → Pos → Pos → Prop
  | [], _, a, b => b = a
  | e :: l, d, a, b => ∃ a1, e.code c G d a a1 ∧ CE.codeL c G l (d + 1) a1 b
def CE.codeX (c : Core) (G : List Block) (k : Int) : List CE → Nat → Pos → Pos → Prop
  | [], _, _, _ => False
  | e :: l, d, a, b => ∃ a1 a2, e.code c G d a a1 ∧ TruthAt G e a1 d a2 ∧ CE.codeY c G k l d a2 b
def CE.codeY (c : Core) (G : List Block) (k : Int) : List CE → Nat → Pos → Pos → Prop
  | [], _, _, _ => False
  | e :: _, d, a, b => ∃ (r h : Nat) (a1 a2 : Pos), (if k = 8 then EndAt G a 2 d r h else EndAt G a 2 d h r) ∧ e.code c G d (r, 0) a1 ∧ TruthAt G e a1 d a2 ∧ EndAt G a2 1 0 h 0 ∧ b = (h, 0)
end
mutual
def CE.ok (C : Core) (n : Nat) : CE → Prop
  | .mk k o num s z kids => CE.okL C n kids ∧
    ((k = 1 ∧ isW num) ∨ (k = 2 ∧ 0 ≤ s ∧ s < C.words) ∨ (k = 3 ∧ kids.length = 1 ∧ 1 ≤ z ∧ z ≤ 4096 ∧ 0 ≤ s ∧ s + z ≤ C.words) ∨
     (k = 4 ∧ 0 ≤ s ∧ s < n ∧ ∃ g, C.funcs[s.toNat]? = some g ∧ g.word = true ∧ g.params = kids.length ∧ kids.length ≤ 6) ∨ k = 5 ∨ (k = 6 ∧ kids.length = 2 ∧ 4 ≤ o ∧ o ≤ 15) ∨ (k = 7 ∧ kids.length = 1) ∨ (k = 8 ∧ kids.length = 2) ∨ (k = 9 ∧ kids.length = 2))
def CE.okL (C : Core) (n : Nat) : List CE → Prop
  | [] => True
  | e :: l => e.ok C n ∧ CE.okL C n l
end
structure RelM (W M : Nat) (c m : Mach) : Prop where
  clen : c.words.length = W
  len : m.words.length = M
  w : ∀ j : Nat, j < W → m.words[j]? = c.words[j]?
  ok : allR c.words
  out : m.out = c.out
  read : m.read = c.read
  fin : m.fin = 0
  cfin : c.fin = 0
theorem RelM.get {W M : Nat} {c m : Mach} (h : RelM W M c m) {z : Int} (h0 : 0 ≤ z) (h1 : z < W) : rget m.words z = rget c.words z := by
  unfold rget
  rw [h.w z.toNat (by omega)]
theorem RelM.step {W M : Nat} {c m : Mach} (h : RelM W M c m) (k j : Nat) : RelM W M { c with steps := k } { m with steps := j } := ⟨h.clen, h.len, h.w, h.ok, h.out, h.read, h.fin, h.cfin⟩
theorem RelM.put {W M : Nat} {c m : Mach} (h : RelM W M c m) {z v : Int} (h0 : 0 ≤ z) (h1 : z < W) (hv : isW v) (k j : Nat) : RelM W M { c with words := rset c.words z v, steps := k } { m with words := rset m.words z v, steps := j } := by
  refine ⟨by unfold rset; rw [List.length_set]; exact h.clen, by unfold rset; rw [List.length_set]; exact h.len, fun i hi => ?_, ?_, h.out, h.read, h.fin, h.cfin⟩
  · have hc := h.clen
    have hm := h.len
    have hw := h.w i hi
    show (m.words.set z.toNat v)[i]? = (c.words.set z.toNat v)[i]?
    have hi2 : i < m.words.length := by
      rw [List.getElem?_eq_getElem (by omega : i < c.words.length)] at hw
      exact (List.getElem?_eq_some_iff.1 hw).1
    rw [List.getElem?_set, List.getElem?_set]
    by_cases e : z.toNat = i
    · rw [if_pos e, if_pos e, if_pos (by omega), if_pos (by omega)]
    · rw [if_neg e, if_neg e]; exact hw
  · exact rset_w h.ok z hv
structure Cx where
  C : Core
  s : ByteArray
  F : BFunc
  cl : Cl
  call : CallC
  n : Nat
  W : Nat
  M : Nat
  K : Nat
structure CallOut (X : Cx) (g : Int) (fn : CFn) (c : CM) (m : Mach) (p : Int × CM) : Prop where
  le : c.m.steps ≤ p.2.m.steps
  go : p.2.fin = 0 → p.2.over = false ∧ isW p.1 ∧ ∃ m', (∀ fu : Nat, m'.steps ≤ fu → X.cl.c fu g m = m') ∧ m.steps ≤ m'.steps ∧ RelM X.W X.M p.2.m m' ∧ (fn.word = true → rget m'.words X.C.words = p.1) ∧ m'.steps + X.K * c.m.steps ≤ m.steps + X.K * p.2.m.steps
  stop : p.2.fin ≠ 0 → p.2.fin ≠ 5 → ∃ m', (∀ fu : Nat, m'.steps ≤ fu → X.cl.c fu g m = m') ∧ m.steps ≤ m'.steps ∧ m'.fin = p.2.fin ∧ m'.out = p.2.m.out ∧ m'.steps + X.K * c.m.steps ≤ m.steps + X.K * p.2.m.steps
structure CxOk (X : Cx) : Prop where
  w : X.C.words = (X.W : Int)
  wm : X.W ≤ X.M
  told : ∀ fn ∈ X.C.funcs, fn.word = true → X.W < X.M
  regs : ∀ x ∈ X.F.blocks, ∀ t ∈ x.ins, setsOp t.op = true → 0 ≤ t.d ∧ t.d < X.F.regs
  call : ∀ (g : Nat) (fn : CFn) (args : List Int) (c : CM) (m0 m : Mach), g < X.n → X.C.funcs[g]? = some fn → (args.length : Int) = fn.params → (∀ x ∈ args, isW x) → c.over = false → RelM X.W X.M c.m m0 →
    m.words = argsW m0.words fn.first args args.length → m.out = m0.out → m.read = m0.read → m.fin = 0 → CallOut X g fn c m (X.call g args c)
theorem InsAt.reg {X : Cx} (hX : CxOk X) {a : Pos} {t : Tac} (h : InsAt X.F.blocks a t) (hs : setsOp t.op = true) : 0 ≤ t.d ∧ t.d < X.F.regs := by
  obtain ⟨x, h1, h2⟩ := h
  exact hX.regs x (List.mem_of_getElem? h1) t (List.mem_of_getElem? h2) hs
structure EvOk (X : Cx) (parts d : Nat) (a b : Pos) (regs : List Int) (c : CM) (m : Mach) (p : Int × CM) : Prop where
  le : c.m.steps ≤ p.2.m.steps
  go : p.2.fin = 0 → p.2.over = false ∧ isW p.1 ∧ ∃ regs' m', Goes X.cl X.s X.F a regs m b regs' m' ∧ RelM X.W X.M p.2.m m' ∧ regs'.length = regs.length ∧ rget regs' (d : Int) = p.1 ∧ (∀ j : Nat, j < d → rget regs' (j : Int) = rget regs (j : Int)) ∧ m'.steps + X.K * c.m.steps ≤ m.steps + parts + X.K * p.2.m.steps
  stop : p.2.fin ≠ 0 → p.2.fin ≠ 5 → ∃ m', Stops X.cl X.s X.F a regs m m' ∧ m'.fin = p.2.fin ∧ m'.out = p.2.m.out ∧ m'.steps + X.K * c.m.steps ≤ m.steps + parts + X.K * p.2.m.steps
def SimE (X : Cx) (e : CE) : Prop := ∀ (d : Nat) (a b : Pos) (regs : List Int) (c : CM) (m : Mach), e.code X.C X.F.blocks d a b → e.ok X.C X.n → (regs.length : Int) = X.F.regs → c.over = false → RelM X.W X.M c.m m → EvOk X (8 * e.parts) d a b regs c m (e.ev X.call X.s c)
section
variable {call : Int → Mach → Mach} {s : ByteArray} {regs : List Int} {m : Mach}
theorem mone_load (d : Nat) (w : Int) : mone call s (iLoad d w) regs m = (rset regs (d : Int) (rget m.words w), m) := rfl
theorem mone_store (w : Int) (a : Nat) : mone call s (iStore w a) regs m = (regs, { m with words := rset m.words w (rget regs (a : Int)) }) := rfl
theorem mone_bin (op : Int) (d x y : Nat) : mone call s (iBin op d x y) regs m = (bif (wapp op (rget regs x) (rget regs y)).2 == 0 then (rset regs d (wapp op (rget regs x) (rget regs y)).1, m) else (regs, { m with fin := 2 })) := rfl
theorem mone_aload (d a : Nat) (w z : Int) : mone call s (iALoad d a w z) regs m = (bif decide (rget regs (a : Int) ≥ z) then (regs, { m with fin := 3 }) else (rset regs (d : Int) (rget m.words (w + rget regs (a : Int))), m)) := rfl
theorem mone_astore (a b : Nat) (w z : Int) : mone call s (iAStore a b w z) regs m = (bif decide (rget regs (a : Int) ≥ z) then (regs, { m with fin := 3 }) else (regs, { m with words := rset m.words (w + rget regs (a : Int)) (rget regs (b : Int)) })) := rfl
theorem mone_get (d : Nat) : mone call s (iGet d) regs m = (bif decide (m.read < s.size) then (rset regs (d : Int) ((inAt s m.read).toNat : Int), { m with read := m.read + 1 }) else (rset regs (d : Int) 256, m)) := rfl
theorem mone_put (a : Nat) : mone call s (iPut a) regs m = (bif decide (m.out.length ≥ 65536) then (regs, { m with fin := 4 }) else (regs, { m with out := m.out ++ [byteOf (rget regs (a : Int))] })) := rfl
end
theorem rget_set' {l : List Int} {d j : Nat} {v : Int} : rget (rset l (d : Int) v) (j : Int) = if d = j ∧ d < l.length then v else rget l (j : Int) := by
  unfold rget rset
  rw [List.getElem?_set, Int.toNat_natCast, Int.toNat_natCast]
  by_cases h : d = j
  · subst h
    by_cases h2 : d < l.length
    · simp [h2]
    · simp [h2]
  · simp [h]
theorem rget_same {l : List Int} {d : Nat} {v : Int} (h : d < l.length) : rget (rset l (d : Int) v) (d : Int) = v := by
  rw [rget_set', if_pos ⟨rfl, h⟩]
theorem rget_other {l : List Int} {d j : Nat} {v : Int} (h : d ≠ j) : rget (rset l (d : Int) v) (j : Int) = rget l (j : Int) := by
  rw [rget_set', if_neg (fun e => h e.1)]
theorem isW_small {n : Nat} (h : n < 4294967296) : isW (n : Int) := ⟨by omega, by omega⟩
theorem isW_zf (b : Bool) : isW (zf b) := by cases b <;> exact ⟨by decide, by decide⟩
theorem isW_byte (b : UInt8) : isW ((b.toNat : Nat) : Int) := isW_small (by have := b.toNat_lt; omega)
section
variable {X : Cx}
theorem EvOk.ins {parts d : Nat} {a b : Pos} {regs : List Int} {c : CM} {m : Mach} {p : Int × CM} {t : Tac} {m' : Mach} (ht : InsAt X.F.blocks a t) (hm : ∀ call, mone call X.s t regs { m with steps := m.steps + 1 } = (rset regs (d : Int) p.1, m'))
    (hd : d < regs.length) (hs : m'.steps = m.steps + 1) (hst : p.2.m.steps = c.m.steps) (hr : RelM X.W X.M p.2.m m') (ho : p.2.over = false) (hv : isW p.1) (hp : 1 ≤ parts) (hb : b = nx a) : EvOk X parts d a b regs c m p := by
  refine ⟨by omega, fun _ => ⟨ho, hv, rset regs (d : Int) p.1, m', ?_, hr, by unfold rset; exact List.length_set, rget_same hd, fun j hj => rget_other (by omega), by rw [hst]; omega⟩, fun h _ => absurd (show p.2.fin = 0 from hr.cfin) h⟩
  rw [hb]
  exact goes_ins ht hm hr.fin hs
theorem EvOk.pre {n1 n2 d : Nat} {a a1 b : Pos} {regs r1 : List Int} {c c1 : CM} {m m1 : Mach} {p : Int × CM} (h : EvOk X n2 d a1 b r1 c1 m1 p) (hg : Goes X.cl X.s X.F a regs m a1 r1 m1) (hl : r1.length = regs.length) (hle : c.m.steps ≤ c1.m.steps)
    (hj : ∀ j : Nat, j < d → rget r1 (j : Int) = rget regs (j : Int)) (hk : m1.steps + X.K * c.m.steps ≤ m.steps + n1 + X.K * c1.m.steps) {n : Nat} (hn : n1 + n2 ≤ n) : EvOk X n d a b regs c m p := by
  refine ⟨Nat.le_trans hle h.le, fun h0 => ?_, fun h0 h5 => ?_⟩
  · obtain ⟨e1, e2, r', m', g1, g2, g3, g4, g5, g6⟩ := h.go h0
    exact ⟨e1, e2, r', m', hg.trans g1, g2, g3.trans hl, g4, fun j h => (g5 j h).trans (hj j h), by omega⟩
  · obtain ⟨m', g1, g2, g3, g4⟩ := h.stop h0 h5
    exact ⟨m', hg.stops g1, g2, g3, by omega⟩
theorem EvOk.ended {n1 n d d' : Nat} {a b b' : Pos} {regs : List Int} {c : CM} {m : Mach} {p : Int × CM} (h : EvOk X n1 d a b regs c m p) (hf : p.2.fin ≠ 0) (hn : n1 ≤ n) (x : Int) : EvOk X n d' a b' regs c m (x, p.2) := by
  refine ⟨h.le, fun h0 => absurd h0 hf, fun h0 h5 => ?_⟩
  obtain ⟨m', g1, g2, g3, g4⟩ := h.stop h0 h5
  refine ⟨m', g1, g2, g3, ?_⟩
  dsimp only
  omega
theorem Goes.reg {a b : Pos} {r r' : List Int} {m m' : Mach} (h : Goes X.cl X.s X.F a r m b r' m') : m.steps ≤ m'.steps := h.le
theorem weq (x y : Int) : wapp 15 x y = (zf (x == y), 0) := by
  unfold wapp
  simp only [show ((15 : Int) == 4) = false from rfl, show ((15 : Int) == 5) = false from rfl, show ((15 : Int) == 6) = false from rfl, show ((15 : Int) == 7) = false from rfl, show ((15 : Int) == 8) = false from rfl, show ((15 : Int) == 9) = false from rfl, show ((15 : Int) == 10) = false from rfl, show ((15 : Int) == 11) = false from rfl, show ((15 : Int) == 12) = false from rfl, show ((15 : Int) == 13) = false from rfl, show ((15 : Int) == 14) = false from rfl, show ((15 : Int) == 15) = true from rfl, Bool.false_or, Bool.or_true, Bool.or_false, cond_true, cond_false]
  unfold wcompare zf
  simp only [show ((15 : Int) == 14) = false from rfl, show ((15 : Int) == 15) = true from rfl, Bool.false_and, Bool.true_and, Bool.false_or]
theorem wcmp {o x y : Int} (h : o = 14 ∨ o = 15) : (wapp o x y).1 = 0 ∨ (wapp o x y).1 = 1 := by
  rcases h with rfl | rfl
  · unfold wapp
    simp only [show ((14 : Int) == 4) = false from rfl, show ((14 : Int) == 5) = false from rfl, show ((14 : Int) == 6) = false from rfl, show ((14 : Int) == 7) = false from rfl, show ((14 : Int) == 8) = false from rfl, show ((14 : Int) == 9) = false from rfl, show ((14 : Int) == 10) = false from rfl, show ((14 : Int) == 11) = false from rfl, show ((14 : Int) == 12) = false from rfl, show ((14 : Int) == 13) = false from rfl, show ((14 : Int) == 14) = true from rfl, Bool.false_or, Bool.true_or, Bool.or_false, cond_true, cond_false]
    unfold wcompare
    cases (((14 : Int) == 14 && decide (x < y)) || ((14 : Int) == 15 && x == y)) <;> simp
  · rw [weq]
    unfold zf
    cases (x == y) <;> simp
theorem not_goes (hX : CxOk X) {a b : Pos} {d : Nat} {regs : List Int} {c : CM} {m : Mach} (h : NotAt X.F.blocks a d b) (hl : (regs.length : Int) = X.F.regs) (hr : RelM X.W X.M c.m m) :
    ∃ regs', Goes X.cl X.s X.F a regs m b regs' { m with steps := m.steps + 2 } ∧ regs'.length = regs.length ∧ rget regs' (d : Int) = zf (rget regs (d : Int) == 0) ∧ rget regs' ((d + 1 : Nat) : Int) = 0 ∧ (∀ j : Nat, j < d → rget regs' (j : Int) = rget regs (j : Int)) := by
  obtain ⟨h1, h2, rfl⟩ := h
  have l1 := (h1.reg hX rfl).2
  have l2 := (h2.reg hX rfl).2
  have e1 : ((d : Int) + 1) = ((d + 1 : Nat) : Int) := by omega
  have hd1 : d + 1 < regs.length := by have : ((d : Int) + 1) < X.F.regs := l1; omega
  have g1 := goes_ins (C := X.cl) (s := X.s) (f := X.F) (regs := regs) (m := m) (r' := rset regs ((d + 1 : Nat) : Int) 0) (m' := { m with steps := m.steps + 1 }) h1 (fun _ => rfl) hr.fin rfl
  have e2 : rget (rset regs ((d + 1 : Nat) : Int) 0) (d : Int) = rget regs (d : Int) := rget_other (by omega)
  have e3 : rget (rset regs ((d + 1 : Nat) : Int) 0) ((d + 1 : Nat) : Int) = 0 := rget_same hd1
  refine ⟨rset (rset regs ((d + 1 : Nat) : Int) 0) (d : Int) (zf (rget regs (d : Int) == 0)), g1.trans (goes_ins h2 (fun call => ?_) hr.fin rfl), by unfold rset; rw [List.length_set, List.length_set], ?_, ?_, fun j hj => ?_⟩
  · rw [mone_bin, e2, e3, weq]; rfl
  · exact rget_same (by unfold rset; rw [List.length_set]; omega)
  · rw [rget_other (by omega)]; exact e3
  · rw [rget_other (by omega), rget_other (by omega)]
theorem truth_goes (hX : CxOk X) {e : CE} {a b : Pos} {d : Nat} {regs : List Int} {c : CM} {m : Mach} (h : TruthAt X.F.blocks e a d b) (hl : (regs.length : Int) = X.F.regs) (hr : RelM X.W X.M c.m m) (hf : e.flagged = true → rget regs (d : Int) = 0 ∨ rget regs (d : Int) = 1) :
    ∃ regs' k, k ≤ 3 ∧ Goes X.cl X.s X.F a regs m b regs' { m with steps := m.steps + k } ∧ regs'.length = regs.length ∧ rget regs' (d : Int) = zf (!(rget regs (d : Int) == 0)) ∧ (∀ j : Nat, j < d → rget regs' (j : Int) = rget regs (j : Int)) := by
  unfold TruthAt at h
  cases e1 : e.flagged with
  | true =>
    rw [e1, if_pos rfl] at h
    subst h
    refine ⟨regs, 0, by omega, Goes.refl _ _ _, rfl, ?_, fun _ _ => rfl⟩
    rcases hf e1 with h | h <;> rw [h] <;> rfl
  | false =>
    rw [e1, if_neg (by decide)] at h
    obtain ⟨a1, h1, h2, rfl⟩ := h
    obtain ⟨r1, g1, g2, g3, g4, g5⟩ := not_goes hX h1 hl hr
    have l2 := (h2.reg hX rfl).2
    have hd : d < r1.length := by have : (d : Int) < X.F.regs := l2; omega
    refine ⟨rset r1 (d : Int) (zf (!(rget regs (d : Int) == 0))), 3, by omega, g1.trans (goes_ins h2 (fun call => ?_) hr.fin rfl), by unfold rset; rw [List.length_set]; exact g2, rget_same hd, fun j hj => by rw [rget_other (by omega)]; exact g5 j hj⟩
    rw [mone_bin, g3, g4, weq]
    cases rget regs (d : Int) == 0 <;> rfl
theorem flagged_ev {call : CallC} {s : ByteArray} {k o n sl z : Int} {kids : List CE} {c : CM} (h : (CE.mk k o n sl z kids).flagged = true) : ((CE.mk k o n sl z kids).ev call s c).1 = 0 ∨ ((CE.mk k o n sl z kids).ev call s c).1 = 1 := by
  have hz : ∀ b : Bool, zf b = 0 ∨ zf b = 1 := fun b => by cases b <;> simp [zf]
  have hk : k = 7 ∨ k = 8 ∨ k = 9 ∨ (k = 6 ∧ (o = 14 ∨ o = 15)) := by simpa [CE.flagged, CE.kind, CE.op] using h
  have e : (CE.mk k o n sl z kids).ev call s c = CE.evK call s k o kids c := by
    rw [CE.ev]
    rw [if_neg (by omega), if_neg (by omega), if_neg (by omega), if_neg (by omega), if_neg (by omega)]
  rw [e]
  cases kids with
  | nil => rw [CE.evK]; exact .inl rfl
  | cons e1 l =>
    rw [CE.evK]
    dsimp only
    cases (CE.ev call s e1 c).2.fin == 0 with
    | false => exact .inl rfl
    | true =>
      simp only [cond_true]
      cases h7 : k == 7 with
      | true => exact hz _
      | false =>
        simp only [cond_false]
        cases k == 8 && (CE.ev call s e1 c).1 == 0 with
        | true => exact .inl rfl
        | false =>
          simp only [cond_false]
          cases k == 9 && !((CE.ev call s e1 c).1 == 0) with
          | true => exact .inr rfl
          | false =>
            simp only [cond_false]
            cases l with
            | nil => rw [CE.evR]; exact .inl rfl
            | cons e2 l =>
              rw [CE.evR]
              dsimp only
              rcases hk with h | h | h | ⟨h, h2⟩
              · subst h; cases h7
              · subst h; exact hz _
              · subst h; exact hz _
              · subst h
                simp only [show ((6 : Int) == 8) = false from rfl, show ((6 : Int) == 9) = false from rfl, Bool.or_false, cond_false]
                cases (CE.ev call s e2 (CE.ev call s e1 c).2).2.fin == 0 with
                | false => exact .inl rfl
                | true =>
                  simp only [cond_true]
                  cases (wapp o (CE.ev call s e1 c).1 (CE.ev call s e2 (CE.ev call s e1 c).2).1).2 == 0 <;> exact wcmp h2
end
def CE.evL (call : CallC) (s : ByteArray) : List CE → CM → List Int × CM
  | [], c => ([], c)
  | e :: l, c => bif (e.ev call s c).2.fin == 0 then ((e.ev call s c).1 :: (CE.evL call s l (e.ev call s c).2).1, (CE.evL call s l (e.ev call s c).2).2) else ([], (e.ev call s c).2)
theorem CE.evC_eq {call : CallC} {s : ByteArray} {f : Int} : ∀ (l : List CE) (args : List Int) (c : CM), c.fin = 0 → CE.evC call s f l args c = bif (CE.evL call s l c).2.fin == 0 then call f (args ++ (CE.evL call s l c).1) (CE.evL call s l c).2 else (0, (CE.evL call s l c).2)
  | [], args, c, h => by
    rw [CE.evC, CE.evL, List.append_nil]
    dsimp only
    rw [h]; rfl
  | e :: l, args, c, h => by
    rw [CE.evC, CE.evL]
    dsimp only
    cases e1 : (CE.ev call s e c).2.fin == 0 with
    | true =>
      simp only [cond_true]
      rw [CE.evC_eq l _ _ (by simpa using e1), List.append_assoc]; rfl
    | false =>
      simp only [cond_false, e1]
structure LsOk (X : Cx) (l : List CE) (d : Nat) (a b : Pos) (regs : List Int) (c : CM) (m : Mach) (q : List Int × CM) : Prop where
  le : c.m.steps ≤ q.2.m.steps
  go : q.2.fin = 0 → q.2.over = false ∧ q.1.length = l.length ∧ (∀ x ∈ q.1, isW x) ∧ ∃ regs' m', Goes X.cl X.s X.F a regs m b regs' m' ∧ RelM X.W X.M q.2.m m' ∧ regs'.length = regs.length ∧ (∀ (i : Nat) (x : Int), q.1[i]? = some x → rget regs' ((d + i : Nat) : Int) = x) ∧ (∀ j : Nat, j < d → rget regs' (j : Int) = rget regs (j : Int)) ∧ m'.steps + X.K * c.m.steps ≤ m.steps + 8 * CE.partsL l + X.K * q.2.m.steps
  stop : q.2.fin ≠ 0 → q.2.fin ≠ 5 → ∃ m', Stops X.cl X.s X.F a regs m m' ∧ m'.fin = q.2.fin ∧ m'.out = q.2.m.out ∧ m'.steps + X.K * c.m.steps ≤ m.steps + 8 * CE.partsL l + X.K * q.2.m.steps
section
variable {X : Cx}
theorem simL : ∀ (l : List CE), (∀ e ∈ l, SimE X e) → ∀ (d : Nat) (a b : Pos) (regs : List Int) (c : CM) (m : Mach), CE.codeL X.C X.F.blocks l d a b → CE.okL X.C X.n l → (regs.length : Int) = X.F.regs → c.over = false → RelM X.W X.M c.m m → LsOk X l d a b regs c m (CE.evL X.call X.s l c)
  | [], _, d, a, b, regs, c, m, hc, _, _, ho, hr => by
    rw [CE.codeL] at hc
    subst hc
    rw [CE.evL]
    refine ⟨Nat.le_refl _, fun _ => ⟨ho, rfl, fun x hx => by simp at hx, regs, m, Goes.refl _ _ _, hr, rfl, fun i x h => by simp at h, fun _ _ => rfl, by rw [CE.partsL]; dsimp only; omega⟩, fun h _ => absurd (show c.fin = 0 from hr.cfin) h⟩
  | e :: l, hI, d, a, b, regs, c, m, hc, hok, hl, ho, hr => by
    rw [CE.codeL] at hc
    obtain ⟨a1, h1, h2⟩ := hc
    rw [CE.okL] at hok
    have k1 := hI e (List.mem_cons.2 (.inl rfl)) d a a1 regs c m h1 hok.1 hl ho hr
    rw [CE.evL]
    generalize e.ev X.call X.s c = p at k1 ⊢
    obtain ⟨x, c1⟩ := p
    dsimp only
    cases e1 : c1.fin == 0 with
    | false =>
      simp only [cond_false]
      have hne : c1.fin ≠ 0 := by simpa using e1
      refine ⟨k1.le, fun h => absurd h hne, fun _ h5 => ?_⟩
      obtain ⟨m', g1, g2, g3, g4⟩ := k1.stop hne h5
      exact ⟨m', g1, g2, g3, by rw [CE.partsL]; dsimp only at g4 ⊢; omega⟩
    | true =>
      simp only [cond_true]
      obtain ⟨o1, v1, r1, m1, g1, g2, g3, g4, g5, g6⟩ := k1.go (by simpa using e1)
      dsimp only at o1 v1 g2 g4 g6
      have k2 := simL l (fun e he => hI e (List.mem_cons.2 (.inr he))) (d + 1) a1 b r1 c1 m1 h2 hok.2 (by rw [g3]; exact hl) o1 g2
      generalize CE.evL X.call X.s l c1 = q at k2 ⊢
      obtain ⟨xs, c2⟩ := q
      have le1 := k1.le
      have le2 := k2.le
      dsimp only at le1 le2
      refine ⟨Nat.le_trans le1 le2, fun h => ?_, fun h h5 => ?_⟩
      · obtain ⟨o2, n2, v2, r2, m2, f1, f2, f3, f4, f5, f6⟩ := k2.go h
        dsimp only at o2 n2 v2 f2 f4 f6 ⊢
        refine ⟨o2, by rw [List.length_cons, List.length_cons, n2], fun y hy => ?_, r2, m2, g1.trans f1, f2, f3.trans g3, fun i y hy => ?_, fun j hj => (f5 j (by omega)).trans (g5 j hj), ?_⟩
        · rcases List.mem_cons.1 hy with rfl | hy
          · exact v1
          · exact v2 y hy
        · cases i with
          | zero =>
            simp at hy; subst hy
            rw [Nat.add_zero, f5 d (by omega)]
            exact g4
          | succ i =>
            have := f4 i y (by simpa using hy)
            rw [show d + (i + 1) = d + 1 + i by omega]; exact this
        · rw [CE.partsL]; omega
      · obtain ⟨m2, f1, f2, f3, f4⟩ := k2.stop h h5
        dsimp only at f4 ⊢
        exact ⟨m2, g1.stops f1, f2, f3, by rw [CE.partsL]; omega⟩
theorem stores_go {a : Pos} {first : Int} {d : Nat} {regs args : List Int} {m : Mach} (h0 : m.fin = 0) : ∀ (n : Nat), (∀ i, i < n → InsAt X.F.blocks (a.1, a.2 + i) (iStore (first + i) (d + i))) → (∀ i, i < n → rget regs ((d + i : Nat) : Int) = rget args (i : Int)) →
    Goes X.cl X.s X.F a regs m (a.1, a.2 + n) regs { m with words := argsW m.words first args n, steps := m.steps + n }
  | 0, _, _ => Goes.refl _ _ _
  | n + 1, h1, h2 => by
    have ih := stores_go h0 n (fun i hi => h1 i (by omega)) (fun i hi => h2 i (by omega))
    refine ih.trans (goes_ins (h1 n (by omega)) (fun call => ?_) h0 rfl)
    rw [mone_store, h2 n (by omega)]; rfl
theorem fn_first {C : Core} {g : Int} {fn : CFn} (h : C.funcs[g.toNat]? = some fn) : C.first g = fn.first := by
  unfold Core.first; rw [h]; rfl
theorem fn_at {g : Int} (h : 0 ≤ g) : ((g.toNat : Nat) : Int) = g := by omega
theorem get_args {xs : List Int} {regs : List Int} {d : Nat} (h : ∀ (i : Nat) (x : Int), xs[i]? = some x → rget regs ((d + i : Nat) : Int) = x) : ∀ i, i < xs.length → rget regs ((d + i : Nat) : Int) = rget xs (i : Int) := fun i hi => by
  obtain ⟨x, hx⟩ := get_of_lt hi
  rw [h i x hx]
  unfold rget
  rw [Int.toNat_natCast, hx]; rfl
structure CdOk (X : Cx) (n : Nat) (a b : Pos) (regs : List Int) (c : CM) (m : Mach) (w : Bool) (p : Int × CM) : Prop where
  le : c.m.steps ≤ p.2.m.steps
  go : p.2.fin = 0 → p.2.over = false ∧ isW p.1 ∧ ∃ m', Goes X.cl X.s X.F a regs m b regs m' ∧ RelM X.W X.M p.2.m m' ∧ (w = true → rget m'.words X.C.words = p.1) ∧ m'.steps + X.K * c.m.steps ≤ m.steps + n + 1 + X.K * p.2.m.steps
  stop : p.2.fin ≠ 0 → p.2.fin ≠ 5 → ∃ m', Stops X.cl X.s X.F a regs m m' ∧ m'.fin = p.2.fin ∧ m'.out = p.2.m.out ∧ m'.steps + X.K * c.m.steps ≤ m.steps + n + 1 + X.K * p.2.m.steps
theorem simC (hX : CxOk X) {g : Int} {fn : CFn} (hg : 0 ≤ g) (hg2 : g < X.n) (hfn : X.C.funcs[g.toNat]? = some fn) {args : List Int} {a b : Pos} {d : Nat} {regs : List Int} {c : CM} {m : Mach} (hn : (args.length : Int) = fn.params) (hw : ∀ x ∈ args, isW x) (ho : c.over = false) (hr : RelM X.W X.M c.m m)
    (hc : CalledAt X.F.blocks a (X.C.first g) g args.length d b) (hv : ∀ i, i < args.length → rget regs ((d + i : Nat) : Int) = rget args (i : Int)) : CdOk X args.length a b regs c m fn.word (X.call g args c) := by
  obtain ⟨h1, h2, rfl⟩ := hc
  rw [fn_first hfn] at h1
  have s1 := stores_go hr.fin args.length h1 hv
  have co := hX.call g.toNat fn args c m { m with words := argsW m.words fn.first args args.length, steps := m.steps + args.length + 1 } (by omega) hfn hn hw ho hr rfl rfl rfl hr.fin
  rw [fn_at hg] at co
  refine ⟨co.le, fun h => ?_, fun h h5 => ?_⟩
  · obtain ⟨o, v, m', k1, k2, k3, k4, k5⟩ := co.go h
    dsimp only at k2 k5
    exact ⟨o, v, m', s1.trans (goes_call h2 (fun fu hfu => k1 fu hfu) k3.fin k2), k3, k4, by omega⟩
  · obtain ⟨m', k1, k2, k3, k4, k5⟩ := co.stop h h5
    dsimp only at k2 k5
    exact ⟨m', s1.stops (stops_call h2 (fun fu hfu => k1 fu hfu) (by rw [k3]; exact h) k2), k3, k4, by omega⟩
end
section
variable {X : Cx}
theorem EvOk.fail {k d : Nat} {a b : Pos} {regs r' : List Int} {c : CM} {m m' : Mach} {p : Int × CM} {t : Tac} (ht : InsAt X.F.blocks a t) (hm : ∀ call, mone call X.s t regs { m with steps := m.steps + 1 } = (r', m')) (hf : m'.fin = p.2.fin) (h0 : p.2.fin ≠ 0) (hs : m'.steps = m.steps + 1) (ho : m'.out = p.2.m.out) (hst : p.2.m.steps = c.m.steps) (hk : 1 ≤ k) :
    EvOk X k d a b regs c m p :=
  ⟨by omega, fun h => absurd h h0, fun _ _ => ⟨m', stops_ins ht hm (by rw [hf]; exact h0) hs, hf, ho, by rw [hst]; omega⟩⟩
theorem parts_mem {e : CE} : ∀ {l : List CE}, e ∈ l → e.parts ≤ CE.partsL l
  | x :: l, h => by
    rw [CE.partsL]
    rcases List.mem_cons.1 h with rfl | h
    · omega
    · have := parts_mem h; omega
theorem len_one {l : List CE} (h : l.length = 1) : ∃ e, l = [e] := by
  cases l with
  | nil => cases h
  | cons e l => cases l with
    | nil => exact ⟨e, rfl⟩
    | cons e2 l => simp at h
theorem len_two {l : List CE} (h : l.length = 2) : ∃ e f, l = [e, f] := by
  cases l with
  | nil => cases h
  | cons e l => cases l with
    | nil => simp at h
    | cons e2 l => cases l with
      | nil => exact ⟨e, e2, rfl⟩
      | cons e3 l => simp at h
theorem flag_of {call : CallC} {s : ByteArray} {e : CE} {c : CM} (h : e.flagged = true) : (e.ev call s c).1 = 0 ∨ (e.ev call s c).1 = 1 := by
  cases e with
  | mk k o n sl z kids => exact flagged_ev h
theorem EvOk.truth (hX : CxOk X) {k d : Nat} {a a1 b : Pos} {regs : List Int} {c : CM} {m : Mach} {e : CE} {p : Int × CM} (h : EvOk X k d a a1 regs c m p) (hl : (regs.length : Int) = X.F.regs) (ht : TruthAt X.F.blocks e a1 d b) (hf : e.flagged = true → p.1 = 0 ∨ p.1 = 1) (h0 : p.2.fin = 0) :
    p.2.over = false ∧ ∃ regs' m', Goes X.cl X.s X.F a regs m b regs' m' ∧ RelM X.W X.M p.2.m m' ∧ regs'.length = regs.length ∧ rget regs' (d : Int) = zf (!(p.1 == 0)) ∧ (∀ j : Nat, j < d → rget regs' (j : Int) = rget regs (j : Int)) ∧ m'.steps + X.K * c.m.steps ≤ m.steps + (k + 3) + X.K * p.2.m.steps := by
  obtain ⟨o1, v1, r1, m1, g1, g2, g3, g4, g5, g6⟩ := h.go h0
  obtain ⟨r2, j, hj, f1, f2, f3, f4⟩ := truth_goes (c := p.2) hX ht (by rw [g3]; exact hl) g2 (fun e => by rw [g4]; exact hf e)
  exact ⟨o1, r2, _, g1.trans f1, g2.step _ _, f2.trans g3, by rw [f3, g4], fun i hi => (f4 i hi).trans (g5 i hi), by dsimp only; omega⟩
theorem rightX_ok (hX : CxOk X) {e : CE} (hI : SimE X e) {d r h : Nat} {a1 a2 : Pos} {regs : List Int} {c : CM} {m : Mach} (hc : e.code X.C X.F.blocks d (r, 0) a1) (ht : TruthAt X.F.blocks e a1 d a2) (hj : EndAt X.F.blocks a2 1 0 h 0) (hok : e.ok X.C X.n) (hl : (regs.length : Int) = X.F.regs) (ho : c.over = false) (hr : RelM X.W X.M c.m m) :
    EvOk X (8 * e.parts + 4) d (r, 0) (h, 0) regs c m (zf (!((e.ev X.call X.s c).1 == 0)), (e.ev X.call X.s c).2) := by
  have k1 := hI d (r, 0) a1 regs c m hc hok hl ho hr
  have hf : e.flagged = true → (e.ev X.call X.s c).1 = 0 ∨ (e.ev X.call X.s c).1 = 1 := flag_of
  generalize e.ev X.call X.s c = p at k1 hf ⊢
  refine ⟨k1.le, fun h0 => ?_, fun h0 h5 => ?_⟩
  · obtain ⟨o1, r1, m1, g1, g2, g3, g4, g5, g6⟩ := k1.truth hX hl ht hf h0
    exact ⟨o1, isW_zf _, r1, _, g1.trans (goes_jump hj), g2.step _ _, g3, g4, g5, by dsimp only at g6 ⊢; omega⟩
  · obtain ⟨m', g1, g2, g3, g4⟩ := k1.stop h0 h5
    exact ⟨m', g1, g2, g3, by dsimp only at g4 ⊢; omega⟩
theorem ends_eq {G : List Block} {k : Int} {a : Pos} {d r h : Nat} (he : if k = 8 then EndAt G a 2 d r h else EndAt G a 2 d h r) : (k = 8 ∧ EndAt G a 2 d r h) ∨ (k ≠ 8 ∧ EndAt G a 2 d h r) := by
  by_cases e : k = 8
  · rw [if_pos e] at he; exact .inl ⟨e, he⟩
  · rw [if_neg e] at he; exact .inr ⟨e, he⟩
theorem isW_rel {W M : Nat} {c m : Mach} (h : RelM W M c m) (z : Int) : isW (rget c.words z) := rget_w h.ok z
theorem simE (hX : CxOk X) : ∀ (n : Nat) (e : CE), e.parts ≤ n → SimE X e
  | 0, e, h => by cases e; rw [CE.parts] at h; omega
  | n + 1, e, hn => by
    cases e with
    | mk k o num sl z kids =>
    rw [CE.parts] at hn
    have hI : ∀ e ∈ kids, SimE X e := fun e he => simE hX n e (by have := parts_mem he; omega)
    intro d a b regs c m hc hok hl ho hr
    rw [CE.code] at hc
    rw [CE.ok] at hok
    obtain ⟨hkids, hk⟩ := hok
    rw [CE.ev]
    rw [CE.parts]
    have hW := hX.w
    rcases hk with ⟨rfl, hw⟩ | ⟨rfl, h0, h1⟩ | ⟨rfl, h1, z1, z2, s0, s1⟩ | ⟨rfl, s0, s1, fn, hfn, hwd, hpar, h6⟩ | rfl | ⟨rfl, h2, o1, o2⟩ | ⟨rfl, h1⟩ | ⟨rfl, h2⟩ | ⟨rfl, h2⟩
    · rw [if_pos rfl] at hc ⊢
      have hd := (hc.1.reg hX rfl).2
      exact EvOk.ins (m' := { m with steps := m.steps + 1 }) hc.1 (fun _ => rfl) (by have : (d : Int) < X.F.regs := hd; omega) rfl rfl (hr.step c.m.steps _) ho hw (by omega) hc.2
    · rw [if_neg (by decide), if_pos rfl] at hc ⊢
      have hd := (hc.1.reg hX rfl).2
      exact EvOk.ins (m' := { m with steps := m.steps + 1 }) hc.1 (fun _ => by rw [mone_load]; exact congrArg (fun v => (rset regs (d : Int) v, _)) (hr.get h0 (by omega))) (by have : (d : Int) < X.F.regs := hd; omega) rfl rfl (hr.step c.m.steps _) ho (isW_rel hr sl) (by omega) hc.2
    · obtain ⟨e, rfl⟩ := len_one h1
      rw [if_neg (by decide), if_neg (by decide), if_pos rfl] at hc ⊢
      obtain ⟨a1, c1, c2, rfl⟩ := hc
      simp only [CE.codeL] at c1
      obtain ⟨a1', c1, rfl⟩ := c1
      simp only [CE.okL] at hkids
      have k1 := hI e (List.mem_singleton.2 rfl) d a _ regs c m c1 hkids.1 hl ho hr
      rw [CE.evI]
      simp only [CE.partsL, Nat.add_zero]
      generalize e.ev X.call X.s c = p at k1 ⊢
      obtain ⟨x, c1'⟩ := p
      dsimp only
      cases e1 : c1'.fin == 0 with
      | false => exact k1.ended (by simpa using e1) (by omega) 0
      | true =>
        simp only [cond_true]
        obtain ⟨ov, v1, r1, m1, g1, g2, g3, g4, g5, g6⟩ := k1.go (by simpa using e1)
        dsimp only at ov v1 g2 g4 g6
        have hd := (c2.reg hX rfl).2
        have le1 := k1.le
        refine EvOk.pre (n1 := 8 * e.parts) (n2 := 8) ?_ g1 g3 le1 g5 g6 (by omega)
        by_cases hx : x ≥ z
        · rw [decide_eq_true hx, cond_true]
          exact EvOk.fail (m' := { m1 with steps := m1.steps + 1, fin := 3 }) c2 (fun _ => by rw [mone_aload, g4, decide_eq_true hx]; rfl) rfl (by show (3 : Int) ≠ 0; decide) rfl g2.out rfl (by omega)
        · rw [decide_eq_false hx, cond_false]
          refine EvOk.ins (m' := { m1 with steps := m1.steps + 1 }) c2 (fun _ => ?_) (by have : (d : Int) < X.F.regs := hd; omega) rfl rfl (g2.step c1'.m.steps _) ov (isW_rel g2 _) (by omega) rfl
          rw [mone_aload, g4, decide_eq_false hx, cond_false]
          exact congrArg (fun v => (rset r1 (d : Int) v, _)) (g2.get (by have := v1.1; omega) (by omega))
    · rw [if_neg (by decide), if_neg (by decide), if_neg (by decide), if_pos rfl] at hc ⊢
      obtain ⟨a1, a2, c1, c2, c3, rfl⟩ := hc
      have k1 := simL kids hI d a a1 regs c m c1 hkids hl ho hr
      rw [CE.evC_eq _ _ _ hr.cfin, List.nil_append]
      generalize CE.evL X.call X.s kids c = q at k1 ⊢
      obtain ⟨xs, c1'⟩ := q
      have le1 := k1.le
      dsimp only at le1 ⊢
      cases e1 : c1'.fin == 0 with
      | false =>
        simp only [cond_false]
        have hne : c1'.fin ≠ 0 := by simpa using e1
        refine ⟨le1, fun h => absurd h hne, fun h h5 => ?_⟩
        obtain ⟨m', g1, g2, g3, g4⟩ := k1.stop h h5
        exact ⟨m', g1, g2, g3, by dsimp only at g4 ⊢; omega⟩
      | true =>
        simp only [cond_true]
        obtain ⟨ov, n1, v1, r1, m1, g1, g2, g3, g4, g5, g6⟩ := k1.go (by simpa using e1)
        dsimp only at ov n1 v1 g2 g4 g6
        rw [← n1] at c2
        have k2 := simC hX s0 s1 hfn (by rw [n1]; exact hpar.symm) v1 ov g2 c2 (get_args g4)
        have le2 := k2.le
        have hd := (c3.reg hX rfl).2
        generalize X.call sl xs c1' = p at k2 le2 ⊢
        obtain ⟨x, c2'⟩ := p
        dsimp only at le2
        refine ⟨by dsimp only; omega, fun h => ?_, fun h h5 => ?_⟩
        · obtain ⟨o2, v2, m2, f1, f2, f3, f4⟩ := k2.go h
          dsimp only at o2 v2 f2 f3 f4 ⊢
          have hdl : d < r1.length := by have : (d : Int) < X.F.regs := hd; omega
          exact ⟨o2, v2, rset r1 (d : Int) x, { m2 with steps := m2.steps + 1 }, (g1.trans f1).trans (goes_ins c3 (fun _ => by rw [mone_load, ← f3 hwd]) f2.fin rfl), f2.step _ _, by unfold rset; rw [List.length_set]; exact g3, rget_same hdl, fun j hj => by rw [rget_other (by omega)]; exact g5 j hj, by dsimp only; omega⟩
        · obtain ⟨m2, f1, f2, f3, f4⟩ := k2.stop h h5
          dsimp only at f4 ⊢
          exact ⟨m2, g1.stops f1, f2, f3, by omega⟩
    · rw [if_neg (by decide), if_neg (by decide), if_neg (by decide), if_neg (by decide), if_pos rfl] at hc ⊢
      have hd := (hc.1.reg hX rfl).2
      have hdl : d < regs.length := by have : (d : Int) < X.F.regs := hd; omega
      by_cases hrd : c.m.read < X.s.size
      · rw [decide_eq_true hrd, cond_true]
        refine EvOk.ins (m' := { m with steps := m.steps + 1, read := m.read + 1 }) hc.1 (fun _ => ?_) hdl rfl rfl ⟨hr.clen, hr.len, hr.w, hr.ok, hr.out, ?_, hr.fin, hr.cfin⟩ ho (isW_byte _) (by omega) hc.2
        · rw [mone_get]
          dsimp only
          rw [hr.read, decide_eq_true hrd]; rfl
        · show m.read + 1 = c.m.read + 1
          rw [hr.read]
      · rw [decide_eq_false hrd, cond_false]
        refine EvOk.ins (m' := { m with steps := m.steps + 1 }) hc.1 (fun _ => ?_) hdl rfl rfl (hr.step c.m.steps _) ho ⟨by show (0 : Int) ≤ 256; decide, by show (256 : Int) < 4294967296; decide⟩ (by omega) hc.2
        rw [mone_get]
        dsimp only
        rw [hr.read, decide_eq_false hrd]; rfl
    · obtain ⟨e1, e2, rfl⟩ := len_two h2
      rw [if_neg (by decide), if_neg (by decide), if_neg (by decide), if_neg (by decide), if_neg (by decide)] at hc ⊢
      rw [if_pos rfl] at hc
      obtain ⟨a3, c1, c2, rfl⟩ := hc
      simp only [CE.codeL] at c1
      obtain ⟨a1, c1, a2, c1', rfl⟩ := c1
      simp only [CE.okL] at hkids
      have k1 := hI e1 (by simp) d a a1 regs c m c1 hkids.1 hl ho hr
      rw [CE.evK]
      simp only [CE.partsL, Nat.add_zero]
      generalize e1.ev X.call X.s c = p at k1 ⊢
      obtain ⟨x, d1⟩ := p
      dsimp only
      cases f1 : d1.fin == 0 with
      | false => exact k1.ended (by simpa using f1) (by omega) 0
      | true =>
        simp only [cond_true, show ((6 : Int) == 7) = false from rfl, show ((6 : Int) == 8) = false from rfl, show ((6 : Int) == 9) = false from rfl, Bool.false_and, cond_false]
        obtain ⟨ov, v1, r1, m1, g1, g2, g3, g4, g5, g6⟩ := k1.go (by simpa using f1)
        dsimp only at ov v1 g2 g4 g6
        have le1 := k1.le
        refine EvOk.pre (n1 := 8 * e1.parts) (n2 := 8 + 8 * e2.parts) ?_ g1 g3 le1 g5 g6 (by omega)
        rw [CE.evR]
        have k2 := hI e2 (by simp) (d + 1) a1 _ r1 d1 m1 c1' hkids.2.1 (by rw [g3]; exact hl) ov g2
        generalize e2.ev X.call X.s d1 = q at k2 ⊢
        obtain ⟨y, d2⟩ := q
        dsimp only
        simp only [show ((6 : Int) == 8) = false from rfl, show ((6 : Int) == 9) = false from rfl, Bool.or_false, cond_false]
        cases f2 : d2.fin == 0 with
        | false => exact k2.ended (by simpa using f2) (by omega) 0
        | true =>
          simp only [cond_true]
          obtain ⟨ov2, v2, r2, m2, j1, j2, j3, j4, j5, j6⟩ := k2.go (by simpa using f2)
          dsimp only at ov2 v2 j2 j4 j6
          have le2 := k2.le
          have hxd : rget r2 (d : Int) = x := (j5 d (by omega)).trans g4
          have hd := (c2.reg hX rfl).2
          refine EvOk.pre (n1 := 8 * e2.parts) (n2 := 8) ?_ j1 j3 le2 (fun j hj => j5 j (by omega)) j6 (by omega)
          cases hz : (wapp o x y).2 == 0 with
          | true =>
            simp only [cond_true]
            have hmm : ∀ call, mone call X.s (iBin o d d (d + 1)) r2 { m2 with steps := m2.steps + 1 } = (rset r2 (d : Int) (wapp o x y).1, { m2 with steps := m2.steps + 1 }) := fun _ => by rw [mone_bin, hxd, j4, hz]; rfl
            exact EvOk.ins c2 hmm (by have : (d : Int) < X.F.regs := hd; omega) rfl rfl (j2.step d2.m.steps _) ov2 (wapp_word v1 v2) (by omega) rfl
          | false =>
            simp only [cond_false]
            have hmm : ∀ call, mone call X.s (iBin o d d (d + 1)) r2 { m2 with steps := m2.steps + 1 } = (r2, { m2 with steps := m2.steps + 1, fin := 2 }) := fun _ => by rw [mone_bin, hxd, j4, hz]; rfl
            exact EvOk.fail c2 hmm rfl (by show (2 : Int) ≠ 0; decide) rfl j2.out rfl (by omega)
    · obtain ⟨e, rfl⟩ := len_one h1
      rw [if_neg (by decide), if_neg (by decide), if_neg (by decide), if_neg (by decide), if_neg (by decide)] at hc ⊢
      rw [if_neg (by decide), if_pos rfl] at hc
      obtain ⟨a1, c1, c2⟩ := hc
      simp only [CE.codeL] at c1
      obtain ⟨a1', c1, rfl⟩ := c1
      simp only [CE.okL] at hkids
      have k1 := hI e (List.mem_singleton.2 rfl) d a _ regs c m c1 hkids.1 hl ho hr
      rw [CE.evK]
      simp only [CE.partsL, Nat.add_zero]
      generalize e.ev X.call X.s c = p at k1 ⊢
      obtain ⟨x, d1⟩ := p
      dsimp only
      cases f1 : d1.fin == 0 with
      | false => exact k1.ended (by simpa using f1) (by omega) 0
      | true =>
        simp only [cond_true, show ((7 : Int) == 7) = true from rfl]
        obtain ⟨ov, v1, r1, m1, g1, g2, g3, g4, g5, g6⟩ := k1.go (by simpa using f1)
        dsimp only at ov v1 g2 g4 g6
        obtain ⟨r2, j1, j2, j3, j4, j5⟩ := not_goes hX c2 (by rw [g3]; exact hl) g2
        refine ⟨k1.le, fun _ => ⟨ov, isW_zf _, r2, _, g1.trans j1, g2.step _ _, j2.trans g3, by rw [j3, g4], fun j hj => (j5 j hj).trans (g5 j hj), by dsimp only; omega⟩, fun h => absurd (by simpa using f1) h⟩
    all_goals
      obtain ⟨e1, e2, rfl⟩ := len_two h2
      rw [if_neg (by decide), if_neg (by decide), if_neg (by decide), if_neg (by decide), if_neg (by decide)] at hc ⊢
      rw [if_neg (by decide), if_neg (by decide), if_pos (by decide)] at hc
      rw [CE.codeX] at hc
      obtain ⟨a1, a2, c1, c2, hc⟩ := hc
      rw [CE.codeY] at hc
      obtain ⟨r, h, a3, a4, c3, c4, c5, c6, rfl⟩ := hc
      simp only [CE.okL] at hkids
      have k1 := hI e1 (by simp) d a a1 regs c m c1 hkids.1 hl ho hr
      have hf1 : e1.flagged = true → (e1.ev X.call X.s c).1 = 0 ∨ (e1.ev X.call X.s c).1 = 1 := flag_of
      rw [CE.evK]
      simp only [CE.partsL, Nat.add_zero]
      generalize e1.ev X.call X.s c = p at k1 hf1 ⊢
      obtain ⟨x, d1⟩ := p
      dsimp only at hf1 ⊢
      cases f1 : d1.fin == 0 with
      | false => exact k1.ended (by simpa using f1) (by omega) 0
      | true =>
        have f0 : d1.fin = 0 := by simpa using f1
        obtain ⟨ov, r1, m1, g1, g2, g3, g4, g5, g6⟩ := k1.truth hX hl c2 hf1 f0
        dsimp only at ov g2 g4 g6
        have le1 := k1.le
        dsimp only at le1
        rcases ends_eq c3 with ⟨e8, he⟩ | ⟨e8, he⟩ <;> first | exact absurd rfl e8 | exact absurd e8 (by decide) | skip
        have gf := goes_fork (C := X.cl) (s := X.s) (f := X.F) (regs := r1) (m := m1) he
        rw [g4] at gf
        have hR := rightX_ok hX (hI e2 (by simp)) c4 c5 c6 hkids.2.1 (regs := r1) (c := d1) (m := { m1 with steps := m1.steps + 1 }) (by rw [g3]; exact hl) ov (g2.step d1.m.steps _)
        cases hx : x == 0 with
        | true =>
          rw [hx] at gf g4
          rw [show zf (!true) = 0 from rfl, if_pos rfl] at gf
          rw [show zf (!true) = 0 from rfl] at g4
          simp only [hx, cond_true, cond_false, show ((8 : Int) == 7) = false from rfl, show ((8 : Int) == 8) = true from rfl, show ((9 : Int) == 7) = false from rfl, show ((9 : Int) == 8) = false from rfl, show ((9 : Int) == 9) = true from rfl, show ((8 : Int) == 9) = false from rfl, Bool.true_and, Bool.false_and, Bool.not_true, Bool.and_false, Bool.not_false]
          first
          | exact ⟨le1, fun _ => ⟨ov, ⟨by dsimp only; omega, by dsimp only; omega⟩, r1, _, g1.trans gf, g2.step d1.m.steps _, g3, g4, g5, by dsimp only; omega⟩, fun h => absurd f0 h⟩
          | exact EvOk.pre (n1 := 8 * e1.parts + 4) hR (g1.trans gf) g3 le1 g5 (by dsimp only; omega) (by omega)
          | (rw [CE.evR]; simp only [show ((9 : Int) == 8) = false from rfl, show ((9 : Int) == 9) = true from rfl, show ((8 : Int) == 8) = true from rfl, Bool.or_true, Bool.true_or, cond_true]; exact EvOk.pre (n1 := 8 * e1.parts + 4) hR (g1.trans gf) g3 le1 g5 (by dsimp only; omega) (by omega))
        | false =>
          rw [hx] at gf g4
          rw [show zf (!false) = 1 from rfl, if_neg (by decide)] at gf
          rw [show zf (!false) = 1 from rfl] at g4
          simp only [hx, cond_true, cond_false, show ((8 : Int) == 7) = false from rfl, show ((8 : Int) == 8) = true from rfl, show ((9 : Int) == 7) = false from rfl, show ((9 : Int) == 8) = false from rfl, show ((9 : Int) == 9) = true from rfl, show ((8 : Int) == 9) = false from rfl, Bool.true_and, Bool.false_and, Bool.not_true, Bool.and_false, Bool.not_false]
          first
          | exact ⟨le1, fun _ => ⟨ov, ⟨by dsimp only; omega, by dsimp only; omega⟩, r1, _, g1.trans gf, g2.step d1.m.steps _, g3, g4, g5, by dsimp only; omega⟩, fun h => absurd f0 h⟩
          | (rw [CE.evR]; simp only [show ((9 : Int) == 8) = false from rfl, show ((9 : Int) == 9) = true from rfl, show ((8 : Int) == 8) = true from rfl, Bool.or_true, Bool.true_or, cond_true]; exact EvOk.pre (n1 := 8 * e1.parts + 4) hR (g1.trans gf) g3 le1 g5 (by dsimp only; omega) (by omega))
end
def LeaveAt (c : Core) (w : Bool) (G : List Block) (a : Pos) : Prop := if w = true then InsAt G a (iNum 0 0) ∧ InsAt G (nx a) (iStore c.words 0) ∧ EndAt G (nx (nx a)) 3 0 0 0 else EndAt G a 3 0 0 0
mutual
def CS.code (c : Core) (w : Bool) (G : List Block) : CS → Pos → Pos → Prop
  | .mk k s z es thn els, a, b =>
    if k = 1 then ∃ a1, CE.codeL c G es 0 a a1 ∧ InsAt G a1 (iStore s 0) ∧ b = nx a1
    else if k = 2 then ∃ a1, CE.codeL c G es 0 a a1 ∧ InsAt G a1 (iAStore 0 1 s z) ∧ b = nx a1
    else if k = 3 then ∃ a1, CE.codeL c G es 0 a a1 ∧ InsAt G a1 (iPut 0) ∧ b = nx a1
    else if k = 6 then ∃ a1, CE.codeL c G es 0 a a1 ∧ CalledAt G a1 (c.first s) s es.length 0 b
    else if k = 7 then (if es = [] then LeaveAt c w G a else ∃ a1, CE.codeL c G es 0 a a1 ∧ InsAt G a1 (iStore c.words 0) ∧ EndAt G (nx a1) 3 0 0 0)
    else if k = 4 then ∃ (a1 : Pos) (t h o : Nat) (a2 a3 : Pos), CE.codeL c G es 0 a a1 ∧ EndAt G a1 2 0 t o ∧ CS.codeL c w G thn (t, 0) a2 ∧ EndAt G a2 1 0 h 0 ∧ (if els = [] then o = h else CS.codeL c w G els (o, 0) a3 ∧ EndAt G a3 1 0 h 0) ∧ b = (h, 0)
    else if k = 5 then ∃ (g t h : Nat) (a1 a2 : Pos), EndAt G a 1 0 g 0 ∧ CE.codeL c G es 0 (g, 0) a1 ∧ EndAt G a1 2 0 t h ∧ CS.codeL c w G thn (t, 0) a2 ∧ EndAt G a2 1 0 g 0 ∧ b = (h, 0)
    else False
def CS.codeL (c : Core) (w : Bool) (G : List Block) : List CS → Pos → Pos → Prop
  | [], a, b => b = a
  | s :: l, a, b => ∃ a1, s.code c w G a a1 ∧ CS.codeL c w G l a1 b
end
mutual
def CS.ok (C : Core) (n : Nat) (w : Bool) : CS → Prop
  | .mk k s z es thn els => CE.okL C n es ∧ CS.okL C n w thn ∧ CS.okL C n w els ∧
    ((k = 1 ∧ es.length = 1 ∧ 0 ≤ s ∧ s < C.words) ∨ (k = 2 ∧ es.length = 2 ∧ 1 ≤ z ∧ z ≤ 4096 ∧ 0 ≤ s ∧ s + z ≤ C.words) ∨ (k = 3 ∧ es.length = 1) ∨ (k = 4 ∧ es.length = 1) ∨ (k = 5 ∧ es.length = 1) ∨
     (k = 6 ∧ 0 ≤ s ∧ s < n ∧ ∃ g, C.funcs[s.toNat]? = some g ∧ g.word = false ∧ g.params = es.length ∧ es.length ≤ 6) ∨ (k = 7 ∧ (es = [] ∨ (es.length = 1 ∧ w = true))))
def CS.okL (C : Core) (n : Nat) (w : Bool) : List CS → Prop
  | [] => True
  | s :: l => s.ok C n w ∧ CS.okL C n w l
end
structure StOk (X : Cx) (w : Bool) (k : Nat) (a b : Pos) (regs : List Int) (c : CM) (m : Mach) (p : CM) : Prop where
  le : c.m.steps ≤ p.m.steps
  go : p.fin = 0 → p.over = false → ∃ regs' m', Goes X.cl X.s X.F a regs m b regs' m' ∧ RelM X.W X.M p.m m' ∧ regs'.length = regs.length ∧ m'.steps + X.K * c.m.steps ≤ m.steps + k + X.K * p.m.steps
  ret : p.fin = 0 → p.over = true → isW p.val ∧ ∃ m', Stops X.cl X.s X.F a regs m m' ∧ RelM X.W X.M p.m m' ∧ (w = true → rget m'.words X.C.words = p.val) ∧ m'.steps + X.K * c.m.steps ≤ m.steps + k + X.K * p.m.steps
  stop : p.fin ≠ 0 → p.fin ≠ 5 → ∃ m', Stops X.cl X.s X.F a regs m m' ∧ m'.fin = p.fin ∧ m'.out = p.m.out ∧ m'.steps + X.K * c.m.steps ≤ m.steps + k + X.K * p.m.steps
def SimS (X : Cx) (w : Bool) (fuel : Int) (st : CS) : Prop := ∀ (a b : Pos) (regs : List Int) (c : CM) (m : Mach), st.code X.C w X.F.blocks a b → st.ok X.C X.n w → 8 * st.parts ≤ X.K → (regs.length : Int) = X.F.regs → c.over = false → RelM X.W X.M c.m m → StOk X w (8 * st.parts) a b regs c m (st.run X.call X.s fuel c)
section
variable {X : Cx} {w : Bool} {fuel : Int}
theorem StOk.pre {n1 n2 n : Nat} {a a1 b : Pos} {regs r1 : List Int} {c c1 p : CM} {m m1 : Mach} (h : StOk X w n2 a1 b r1 c1 m1 p) (hg : Goes X.cl X.s X.F a regs m a1 r1 m1) (hl : r1.length = regs.length) (hle : c.m.steps ≤ c1.m.steps)
    (hk : m1.steps + X.K * c.m.steps ≤ m.steps + n1 + X.K * c1.m.steps) (hn : n1 + n2 ≤ n) : StOk X w n a b regs c m p := by
  refine ⟨Nat.le_trans hle h.le, fun h0 h1 => ?_, fun h0 h1 => ?_, fun h0 h5 => ?_⟩
  · obtain ⟨r', m', g1, g2, g3, g4⟩ := h.go h0 h1
    exact ⟨r', m', hg.trans g1, g2, g3.trans hl, by omega⟩
  · obtain ⟨v, m', g1, g2, g3, g4⟩ := h.ret h0 h1
    exact ⟨v, m', hg.stops g1, g2, g3, by omega⟩
  · obtain ⟨m', g1, g2, g3, g4⟩ := h.stop h0 h5
    exact ⟨m', hg.stops g1, g2, g3, by omega⟩
theorem StOk.ended {k n d : Nat} {a a1 b : Pos} {regs : List Int} {c : CM} {m : Mach} {p : Int × CM} (h : EvOk X k d a a1 regs c m p) (hf : p.2.fin ≠ 0) (hn : k ≤ n) : StOk X w n a b regs c m p.2 := by
  refine ⟨h.le, fun h0 => absurd h0 hf, fun h0 => absurd h0 hf, fun h0 h5 => ?_⟩
  obtain ⟨m', g1, g2, g3, g4⟩ := h.stop h0 h5
  exact ⟨m', g1, g2, g3, by omega⟩
theorem StOk.ins {k : Nat} {a b : Pos} {regs : List Int} {c p : CM} {m m' : Mach} {t : Tac} (ht : InsAt X.F.blocks a t) (hm : ∀ call, mone call X.s t regs { m with steps := m.steps + 1 } = (regs, m')) (hs : m'.steps = m.steps + 1) (hst : p.m.steps = c.m.steps) (hr : RelM X.W X.M p.m m') (ho : p.over = false) (hk : 1 ≤ k) (hb : b = nx a) : StOk X w k a b regs c m p := by
  refine ⟨by omega, fun _ _ => ⟨regs, m', ?_, hr, rfl, by rw [hst]; omega⟩, fun _ h => (by rw [ho] at h; cases h), fun h _ => absurd (show p.fin = 0 from hr.cfin) h⟩
  rw [hb]
  exact goes_ins ht hm hr.fin hs
theorem StOk.fail {k : Nat} {a b : Pos} {regs r' : List Int} {c p : CM} {m m' : Mach} {t : Tac} (ht : InsAt X.F.blocks a t) (hm : ∀ call, mone call X.s t regs { m with steps := m.steps + 1 } = (r', m')) (hf : m'.fin = p.fin) (h0 : p.fin ≠ 0) (hs : m'.steps = m.steps + 1) (ho : m'.out = p.m.out) (hst : p.m.steps = c.m.steps) (hk : 1 ≤ k) : StOk X w k a b regs c m p :=
  ⟨by omega, fun h => absurd h h0, fun h => absurd h h0, fun _ _ => ⟨m', stops_ins ht hm (by rw [hf]; exact h0) hs, hf, ho, by rw [hst]; omega⟩⟩
theorem leave_stops (hX : CxOk X) {a : Pos} {regs : List Int} {c : CM} {m : Mach} (h : LeaveAt X.C w X.F.blocks a) (hl : (regs.length : Int) = X.F.regs) (hr : RelM X.W X.M c.m m) (hw : w = true → X.W < X.M) :
    ∃ m', Stops X.cl X.s X.F a regs m m' ∧ RelM X.W X.M c.m m' ∧ (w = true → rget m'.words X.C.words = 0) ∧ m'.steps ≤ m.steps + 3 := by
  unfold LeaveAt at h
  cases w with
  | false =>
    rw [if_neg (by decide)] at h
    exact ⟨_, stops_ret h, hr.step c.m.steps _, fun e => by (cases e), by dsimp only; omega⟩
  | true =>
    rw [if_pos rfl] at h
    obtain ⟨h1, h2, h3⟩ := h
    have hd := (h1.reg hX rfl).2
    have hM := hw rfl
    have hWw := hX.w
    have hdl : 0 < regs.length := by have : ((0 : Nat) : Int) < X.F.regs := hd; omega
    have g1 := goes_ins (C := X.cl) (s := X.s) (f := X.F) (regs := regs) (m := m) (r' := rset regs ((0 : Nat) : Int) 0) (m' := { m with steps := m.steps + 1 }) h1 (fun _ => rfl) hr.fin rfl
    have hm2 : ∀ call, mone call X.s (iStore X.C.words 0) (rset regs ((0 : Nat) : Int) 0) { m with steps := m.steps + 2 } = (rset regs ((0 : Nat) : Int) 0, { m with words := rset m.words X.C.words 0, steps := m.steps + 2 }) := fun _ => by
      rw [mone_store, rget_same hdl]
    have g2 := goes_ins (C := X.cl) (s := X.s) (f := X.F) (m := { m with steps := m.steps + 1 }) h2 hm2 hr.fin rfl
    have hlen := hr.len
    refine ⟨_, (g1.trans g2).stops (stops_ret h3), ⟨hr.clen, by show (m.words.set X.C.words.toNat 0).length = _; rw [List.length_set]; exact hlen, fun j hj => ?_, hr.ok, hr.out, hr.read, hr.fin, hr.cfin⟩, fun _ => ?_, by dsimp only; omega⟩
    · show (m.words.set X.C.words.toNat 0)[j]? = _
      rw [List.getElem?_set_ne (by omega)]
      exact hr.w j hj
    · show rget (m.words.set X.C.words.toNat 0) X.C.words = 0
      unfold rget
      rw [List.getElem?_set_self (by omega)]; rfl
theorem tell_stops (hX : CxOk X) {a : Pos} {regs : List Int} {c : CM} {m : Mach} (h1 : InsAt X.F.blocks a (iStore X.C.words 0)) (h2 : EndAt X.F.blocks (nx a) 3 0 0 0) (hr : RelM X.W X.M c.m m) (hM : X.W < X.M) :
    ∃ m', Stops X.cl X.s X.F a regs m m' ∧ RelM X.W X.M c.m m' ∧ rget m'.words X.C.words = rget regs 0 ∧ m'.steps ≤ m.steps + 2 := by
  have hWw := hX.w
  have hlen := hr.len
  have g2 := goes_ins (C := X.cl) (s := X.s) (f := X.F) (regs := regs) (r' := regs) (m := m) (m' := { m with words := rset m.words X.C.words (rget regs 0), steps := m.steps + 1 }) h1 (fun _ => rfl) hr.fin rfl
  refine ⟨_, g2.stops (stops_ret h2), ⟨hr.clen, by show (m.words.set X.C.words.toNat _).length = _; rw [List.length_set]; exact hlen, fun j hj => ?_, hr.ok, hr.out, hr.read, hr.fin, hr.cfin⟩, ?_, by dsimp only; omega⟩
  · show (m.words.set X.C.words.toNat _)[j]? = _
    rw [List.getElem?_set_ne (by omega)]
    exact hr.w j hj
  · show rget (m.words.set X.C.words.toNat _) X.C.words = _
    unfold rget
    rw [List.getElem?_set_self (by omega)]; rfl
theorem simW (hX : CxOk X) {es : CE} {thn : List CS} {g t h : Nat} {a1 a2 : Pos} (hI : SimE X es) (hb : ∀ (a b : Pos) (regs : List Int) (c : CM) (m : Mach), CS.codeL X.C w X.F.blocks thn a b → (regs.length : Int) = X.F.regs → c.over = false → RelM X.W X.M c.m m → StOk X w (8 * CS.partsL thn) a b regs c m (CS.runL X.call X.s fuel thn c))
    (hok : es.ok X.C X.n) (c1 : es.code X.C X.F.blocks 0 (g, 0) a1) (c2 : EndAt X.F.blocks a1 2 0 t h) (c3 : CS.codeL X.C w X.F.blocks thn (t, 0) a2) (c4 : EndAt X.F.blocks a2 1 0 g 0) (hK : 8 * (es.parts + CS.partsL thn) + 2 ≤ X.K) :
    ∀ (gas : Nat) (regs : List Int) (c : CM) (m : Mach), (regs.length : Int) = X.F.regs → c.over = false → RelM X.W X.M c.m m → StOk X w 0 (g, 0) (h, 0) regs c m (whileC fuel (es.ev X.call X.s) (CS.runL X.call X.s fuel thn) gas c)
  | 0, regs, c, m, hl, ho, hr => by
    rw [whileC]
    exact ⟨Nat.le_refl _, fun h0 => (by cases h0), fun h0 => (by cases h0), fun _ h5 => absurd rfl h5⟩
  | gas + 1, regs, c, m, hl, ho, hr => by
    rw [whileC]
    rw [show c.fin = 0 from hr.cfin, ho]
    simp only [show ((0 : Int) == 0) = true from rfl, Bool.not_false, Bool.and_self, cond_true]
    unfold tickC
    unfold mstep
    cases ht : decide ((c.m.steps : Int) ≥ fuel) with
    | true =>
      simp only [cond_true, cond_false]
      exact ⟨Nat.le_refl _, fun h0 => (by cases h0), fun h0 => (by cases h0), fun _ h5 => absurd rfl h5⟩
    | false =>
      simp only [cond_true, cond_false]
      have hr1 : RelM X.W X.M (c.put { c.m with steps := c.m.steps + 1 }).m m := hr.step _ m.steps
      have k1 := hI 0 (g, 0) a1 regs (c.put { c.m with steps := c.m.steps + 1 }) m c1 hok hl ho hr1
      have hmul : X.K * (c.m.steps + 1) = X.K * c.m.steps + X.K := Nat.mul_succ _ _
      have hs1 : (c.put { c.m with steps := c.m.steps + 1 }).m.steps = c.m.steps + 1 := rfl
      generalize es.ev X.call X.s (c.put { c.m with steps := c.m.steps + 1 }) = p at k1 ⊢
      generalize c.put { c.m with steps := c.m.steps + 1 } = c' at k1 hr1 hs1
      obtain ⟨x, d1⟩ := p
      have le1 := k1.le
      dsimp only at le1 ⊢
      rw [← hs1] at hmul
      have hle : c.m.steps ≤ c'.m.steps := by omega
      cases f1 : d1.fin == 0 with
      | false =>
        simp only [Bool.false_and, cond_false]
        have hne : d1.fin ≠ 0 := by simpa using f1
        have := StOk.ended (w := w) (b := (h, 0)) k1 hne (Nat.le_refl _)
        refine ⟨by omega, fun h0 => absurd h0 hne, fun h0 => absurd h0 hne, fun h0 h5 => ?_⟩
        obtain ⟨m', g1, g2, g3, g4⟩ := this.stop h0 h5
        exact ⟨m', g1, g2, g3, by dsimp only at g4; omega⟩
      | true =>
        obtain ⟨ov, v1, r1, m1, g1, g2, g3, g4, g5, g6⟩ := k1.go (by simpa using f1)
        dsimp only at ov v1 g2 g4 g6
        have gf := goes_fork (C := X.cl) (s := X.s) (f := X.F) (regs := r1) (m := m1) (v := 0) c2
        rw [g4] at gf
        by_cases hx : x = 0
        · subst hx
          rw [if_pos rfl] at gf
          simp only [show ((0 : Int) == 0) = true from rfl, Bool.not_true, Bool.and_false, cond_false]
          refine ⟨by omega, fun _ _ => ⟨r1, _, g1.trans gf, g2.step d1.m.steps _, g3, by dsimp only; omega⟩, fun _ h1 => (by rw [ov] at h1; cases h1), fun h0 => absurd (by simpa using f1) h0⟩
        · rw [if_neg hx] at gf
          rw [show (x == 0) = false by simpa using hx]
          simp only [Bool.not_false, Bool.and_true, cond_true]
          have k2 := hb (t, 0) a2 r1 d1 { m1 with steps := m1.steps + 1 } c3 (by rw [g3]; exact hl) ov (g2.step d1.m.steps _)
          generalize CS.runL X.call X.s fuel thn d1 = d2 at k2 ⊢
          have le2 := k2.le
          by_cases h2 : d2.fin = 0 ∧ d2.over = false
          · obtain ⟨r2, m2, j1, j2, j3, j4⟩ := k2.go h2.1 h2.2
            dsimp only at j4
            have ih := simW hX hI hb hok c1 c2 c3 c4 hK gas r2 d2 { m2 with steps := m2.steps + 1 } (by rw [j3, g3]; exact hl) h2.2 (j2.step d2.m.steps _)
            exact StOk.pre (n1 := 0) ih (((g1.trans gf).trans j1).trans (goes_jump c4)) (j3.trans g3) (by omega) (by dsimp only; omega) (by omega)
          · have e : whileC fuel (es.ev X.call X.s) (CS.runL X.call X.s fuel thn) gas d2 = d2 ∨ (whileC fuel (es.ev X.call X.s) (CS.runL X.call X.s fuel thn) gas d2).fin = 5 ∧ d2.m.steps ≤ (whileC fuel (es.ev X.call X.s) (CS.runL X.call X.s fuel thn) gas d2).m.steps := by
              cases gas with
              | zero => rw [whileC]; exact .inr ⟨rfl, Nat.le_refl _⟩
              | succ gas =>
                left
                rw [whileC]
                have : (d2.fin == 0 && !d2.over) = false := by
                  cases ho2 : d2.over with
                  | true => simp
                  | false =>
                    have : d2.fin ≠ 0 := fun e => h2 ⟨e, ho2⟩
                    simp [this]
                rw [this]; rfl
            rcases e with e | ⟨e, e2⟩
            · rw [e]
              refine ⟨by omega, fun h0 h1 => absurd ⟨h0, h1⟩ h2, fun h0 h1 => ?_, fun h0 h5 => ?_⟩
              · obtain ⟨v, m2, j1, j2, j3, j4⟩ := k2.ret h0 h1
                exact ⟨v, m2, (g1.trans gf).stops j1, j2, j3, by dsimp only at j4; omega⟩
              · obtain ⟨m2, j1, j2, j3, j4⟩ := k2.stop h0 h5
                exact ⟨m2, (g1.trans gf).stops j1, j2, j3, by dsimp only at j4; omega⟩
            · exact ⟨by omega, fun h0 => (by rw [e] at h0; cases h0), fun h0 => (by rw [e] at h0; cases h0), fun _ h5 => absurd e h5⟩
end
section
variable {X : Cx} {w : Bool} {fuel : Int}
theorem runL_stop {call : CallC} {s : ByteArray} {l : List CS} {c : CM} (h : ¬ (c.fin = 0 ∧ c.over = false)) : CS.runL call s fuel l c = c := by
  cases l with
  | nil => rw [CS.runL]
  | cons st l =>
    rw [CS.runL]
    have : (c.fin == 0 && !c.over) = false := by
      cases ho : c.over with
      | true => simp
      | false =>
        have : c.fin ≠ 0 := fun e => h ⟨e, ho⟩
        simp [this]
    rw [this]; rfl
theorem StOk.over_or {k n : Nat} {a b b' : Pos} {regs : List Int} {c p : CM} {m : Mach} (h : StOk X w k a b regs c m p) (hn : ¬ (p.fin = 0 ∧ p.over = false)) (hk : k ≤ n) : StOk X w n a b' regs c m p := by
  refine ⟨h.le, fun h0 h1 => absurd ⟨h0, h1⟩ hn, fun h0 h1 => ?_, fun h0 h5 => ?_⟩
  · obtain ⟨v, m', g1, g2, g3, g4⟩ := h.ret h0 h1
    exact ⟨v, m', g1, g2, g3, by omega⟩
  · obtain ⟨m', g1, g2, g3, g4⟩ := h.stop h0 h5
    exact ⟨m', g1, g2, g3, by omega⟩
theorem simSL : ∀ (l : List CS), (∀ st ∈ l, SimS X w fuel st) → ∀ (a b : Pos) (regs : List Int) (c : CM) (m : Mach), CS.codeL X.C w X.F.blocks l a b → CS.okL X.C X.n w l → 8 * CS.partsL l ≤ X.K → (regs.length : Int) = X.F.regs → c.over = false → RelM X.W X.M c.m m → StOk X w (8 * CS.partsL l) a b regs c m (CS.runL X.call X.s fuel l c)
  | [], _, a, b, regs, c, m, hc, _, _, _, ho, hr => by
    rw [CS.codeL] at hc
    subst hc
    rw [CS.runL]
    exact ⟨Nat.le_refl _, fun _ _ => ⟨regs, m, Goes.refl _ _ _, hr, rfl, by omega⟩, fun _ h => (by rw [ho] at h; cases h), fun h => absurd (show c.fin = 0 from hr.cfin) h⟩
  | st :: l, hI, a, b, regs, c, m, hc, hok, hK, hl, ho, hr => by
    rw [CS.codeL] at hc
    obtain ⟨a1, h1, h2⟩ := hc
    rw [CS.okL] at hok
    rw [CS.partsL] at hK ⊢
    have k1 := hI st (List.mem_cons.2 (.inl rfl)) a a1 regs c m h1 hok.1 (by omega) hl ho hr
    rw [CS.runL, show c.fin = 0 from hr.cfin, ho]
    simp only [show ((0 : Int) == 0) = true from rfl, Bool.not_false, Bool.and_self, cond_true]
    generalize st.run X.call X.s fuel c = p at k1 ⊢
    by_cases hp : p.fin = 0 ∧ p.over = false
    · obtain ⟨r1, m1, g1, g2, g3, g4⟩ := k1.go hp.1 hp.2
      exact StOk.pre (n1 := 8 * st.parts) (simSL l (fun st hs => hI st (List.mem_cons.2 (.inr hs))) a1 b r1 p m1 h2 hok.2 (by omega) (by rw [g3]; exact hl) hp.2 g2) g1 g3 k1.le g4 (by omega)
    · rw [runL_stop hp]
      exact k1.over_or hp (by omega)
theorem sparts_mem {st : CS} : ∀ {l : List CS}, st ∈ l → st.parts ≤ CS.partsL l
  | x :: l, h => by
    rw [CS.partsL]
    rcases List.mem_cons.1 h with rfl | h
    · omega
    · have := sparts_mem h; omega
theorem codeL_one {C : Core} {G : List Block} {e : CE} {d : Nat} {a b : Pos} (h : CE.codeL C G [e] d a b) : e.code C G d a b := by
  rw [CE.codeL] at h
  obtain ⟨a1, h1, h2⟩ := h
  rw [CE.codeL] at h2
  subst h2; exact h1
theorem codeL_two {C : Core} {G : List Block} {e f : CE} {d : Nat} {a b : Pos} (h : CE.codeL C G [e, f] d a b) : ∃ a1, e.code C G d a a1 ∧ f.code C G (d + 1) a1 b := by
  rw [CE.codeL] at h
  obtain ⟨a1, h1, h2⟩ := h
  exact ⟨a1, h1, codeL_one h2⟩
theorem simS (hX : CxOk X) (hM : w = true → X.W < X.M) : ∀ (n : Nat) (st : CS), st.parts ≤ n → SimS X w fuel st
  | 0, st, h => by cases st; rw [CS.parts] at h; omega
  | n + 1, st, hn => by
    cases st with
    | mk k s z es thn els =>
    rw [CS.parts] at hn
    have hE : ∀ e ∈ es, SimE X e := fun e _ => simE hX e.parts e (Nat.le_refl _)
    have hT : ∀ s ∈ thn, SimS X w fuel s := fun s hs => simS hX hM n s (by have := sparts_mem hs; omega)
    have hL : ∀ s ∈ els, SimS X w fuel s := fun s hs => simS hX hM n s (by have := sparts_mem hs; omega)
    intro a b regs c m hc hok hK hl ho hr
    rw [CS.code] at hc
    rw [CS.ok] at hok
    rw [CS.parts] at hK ⊢
    obtain ⟨hes, hthn, hels, hk⟩ := hok
    rw [CS.run]
    have hW := hX.w
    rcases hk with ⟨rfl, h1, s0, s1⟩ | ⟨rfl, h2, z1, z2, s0, s1⟩ | ⟨rfl, h1⟩ | ⟨rfl, h1⟩ | ⟨rfl, h1⟩ | ⟨rfl, s0, s1, fn, hfn, hwd, hpar, h6⟩ | ⟨rfl, h1⟩
    · obtain ⟨e, rfl⟩ := len_one h1
      rw [if_pos rfl] at hc
      rw [if_neg (by decide), if_neg (by decide)]
      obtain ⟨a1, c1, c2, rfl⟩ := hc
      simp only [CE.okL] at hes
      have k1 := hE e (by simp) 0 a a1 regs c m (codeL_one c1) hes.1 hl ho hr
      rw [CE.evH]
      simp only [CE.partsL, Nat.add_zero]
      simp only [CE.partsL, Nat.add_zero] at hK
      generalize e.ev X.call X.s c = p at k1 ⊢
      obtain ⟨x, d1⟩ := p
      dsimp only
      cases f1 : d1.fin == 0 with
      | false => exact StOk.ended k1 (by simpa using f1) (by omega)
      | true =>
        rw [cond_true]
        rw [if_neg (by decide), if_pos trivial]
        obtain ⟨ov, v1, r1, m1, g1, g2, g3, g4, g5, g6⟩ := k1.go (by simpa using f1)
        dsimp only at ov v1 g2 g4 g6
        refine StOk.pre (n1 := 8 * e.parts) (n2 := 8) ?_ g1 g3 k1.le g6 (by omega)
        exact StOk.ins (m' := { m1 with words := rset m1.words s x, steps := m1.steps + 1 }) c2 (fun _ => by rw [mone_store, g4]) rfl rfl (g2.put s0 (by omega) v1 d1.m.steps _) ov (by omega) rfl
    · obtain ⟨e1, e2, rfl⟩ := len_two h2
      rw [if_neg (by decide), if_pos rfl] at hc
      rw [if_neg (by decide), if_neg (by decide)]
      obtain ⟨a2, c1, c2, rfl⟩ := hc
      obtain ⟨a1, c1, c1'⟩ := codeL_two c1
      simp only [CE.okL] at hes
      have k1 := hE e1 (by simp) 0 a a1 regs c m c1 hes.1 hl ho hr
      rw [CE.evH]
      simp only [CE.partsL, Nat.add_zero]
      simp only [CE.partsL, Nat.add_zero] at hK
      generalize e1.ev X.call X.s c = p at k1 ⊢
      obtain ⟨x, d1⟩ := p
      dsimp only
      cases f1 : d1.fin == 0 with
      | false => exact StOk.ended k1 (by simpa using f1) (by omega)
      | true =>
        rw [cond_true]
        rw [if_neg (by decide), if_neg (by decide), if_pos trivial]
        obtain ⟨ov, v1, r1, m1, g1, g2, g3, g4, g5, g6⟩ := k1.go (by simpa using f1)
        dsimp only at ov v1 g2 g4 g6
        refine StOk.pre (n1 := 8 * e1.parts) (n2 := 8 * e2.parts + 8) ?_ g1 g3 k1.le g6 (by omega)
        have k2 := hE e2 (by simp) 1 a1 a2 r1 d1 m1 c1' hes.2.1 (by rw [g3]; exact hl) ov g2
        rw [List.drop_succ_cons, List.drop_zero, CE.evH]
        generalize e2.ev X.call X.s d1 = q at k2 ⊢
        obtain ⟨y, d2⟩ := q
        dsimp only
        cases f2 : d2.fin == 0 with
        | false => exact StOk.ended k2 (by simpa using f2) (by omega)
        | true =>
          simp only [cond_true]
          obtain ⟨ov2, v2, r2, m2, j1, j2, j3, j4, j5, j6⟩ := k2.go (by simpa using f2)
          dsimp only at ov2 v2 j2 j4 j6
          have hx0 : rget r2 ((0 : Nat) : Int) = x := (j5 0 (by omega)).trans g4
          refine StOk.pre (n1 := 8 * e2.parts) (n2 := 8) ?_ j1 j3 k2.le j6 (by omega)
          by_cases hx : x ≥ z
          · rw [decide_eq_true hx, cond_true]
            have hmm : ∀ call, mone call X.s (iAStore 0 1 s z) r2 { m2 with steps := m2.steps + 1 } = (r2, { m2 with steps := m2.steps + 1, fin := 3 }) := fun _ => by rw [mone_astore, hx0, decide_eq_true hx]; rfl
            exact StOk.fail c2 hmm rfl (by show (3 : Int) ≠ 0; decide) rfl j2.out rfl (by omega)
          · rw [decide_eq_false hx, cond_false]
            have hmm : ∀ call, mone call X.s (iAStore 0 1 s z) r2 { m2 with steps := m2.steps + 1 } = (r2, { m2 with words := rset m2.words (s + x) y, steps := m2.steps + 1 }) := fun _ => by rw [mone_astore, hx0, j4, decide_eq_false hx]; rfl
            exact StOk.ins c2 hmm rfl rfl (j2.put (by have := v1.1; omega) (by omega) v2 d2.m.steps _) ov2 (by omega) rfl
    · obtain ⟨e, rfl⟩ := len_one h1
      rw [if_neg (by decide), if_neg (by decide), if_pos rfl] at hc
      rw [if_neg (by decide), if_neg (by decide)]
      obtain ⟨a1, c1, c2, rfl⟩ := hc
      simp only [CE.okL] at hes
      have k1 := hE e (by simp) 0 a a1 regs c m (codeL_one c1) hes.1 hl ho hr
      rw [CE.evH]
      simp only [CE.partsL, Nat.add_zero]
      simp only [CE.partsL, Nat.add_zero] at hK
      generalize e.ev X.call X.s c = p at k1 ⊢
      obtain ⟨x, d1⟩ := p
      dsimp only
      cases f1 : d1.fin == 0 with
      | false => exact StOk.ended k1 (by simpa using f1) (by omega)
      | true =>
        rw [cond_true]
        rw [if_neg (by decide), if_neg (by decide), if_neg (by decide), if_pos trivial]
        obtain ⟨ov, v1, r1, m1, g1, g2, g3, g4, g5, g6⟩ := k1.go (by simpa using f1)
        dsimp only at ov v1 g2 g4 g6
        refine StOk.pre (n1 := 8 * e.parts) (n2 := 8) ?_ g1 g3 k1.le g6 (by omega)
        have hout := g2.out
        by_cases hx : d1.m.out.length ≥ 65536
        · rw [decide_eq_true hx, cond_true]
          have hmm : ∀ call, mone call X.s (iPut 0) r1 { m1 with steps := m1.steps + 1 } = (r1, { m1 with steps := m1.steps + 1, fin := 4 }) := fun _ => by
            rw [mone_put]; dsimp only; rw [hout, decide_eq_true hx]; rfl
          exact StOk.fail c2 hmm rfl (by show (4 : Int) ≠ 0; decide) rfl hout rfl (by omega)
        · rw [decide_eq_false hx, cond_false]
          have hmm : ∀ call, mone call X.s (iPut 0) r1 { m1 with steps := m1.steps + 1 } = (r1, { m1 with out := d1.m.out ++ [byteOf x], steps := m1.steps + 1 }) := fun _ => by
            rw [mone_put]; dsimp only; rw [hout, decide_eq_false hx, g4]; rfl
          exact StOk.ins c2 hmm rfl rfl ⟨g2.clen, g2.len, g2.w, g2.ok, rfl, g2.read, g2.fin, g2.cfin⟩ ov (by omega) rfl
    · obtain ⟨e, rfl⟩ := len_one h1
      rw [if_neg (by decide), if_neg (by decide), if_neg (by decide), if_neg (by decide), if_neg (by decide), if_pos rfl] at hc
      rw [if_neg (by decide), if_neg (by decide)]
      obtain ⟨a1, t, h, o, a2, a3, c1, c2, c3, c4, c5, rfl⟩ := hc
      simp only [CE.okL] at hes
      have k1 := hE e (by simp) 0 a a1 regs c m (codeL_one c1) hes.1 hl ho hr
      rw [CE.evH]
      simp only [CE.partsL, Nat.add_zero]
      simp only [CE.partsL, Nat.add_zero] at hK
      generalize e.ev X.call X.s c = p at k1 ⊢
      obtain ⟨x, d1⟩ := p
      dsimp only
      cases f1 : d1.fin == 0 with
      | false => exact StOk.ended k1 (by simpa using f1) (by omega)
      | true =>
        rw [cond_true]
        rw [if_neg (by decide), if_neg (by decide), if_neg (by decide), if_neg (by decide)]
        obtain ⟨ov, v1, r1, m1, g1, g2, g3, g4, g5, g6⟩ := k1.go (by simpa using f1)
        dsimp only at ov v1 g2 g4 g6
        have gf := goes_fork (C := X.cl) (s := X.s) (f := X.F) (regs := r1) (m := m1) (v := 0) c2
        rw [g4] at gf
        have side : ∀ (l : List CS) (i : Nat) (j : Pos), (∀ s ∈ l, SimS X w fuel s) → CS.codeL X.C w X.F.blocks l (i, 0) j → CS.okL X.C X.n w l → 8 * CS.partsL l ≤ X.K → EndAt X.F.blocks j 1 0 h 0 → StOk X w (8 * CS.partsL l + 1) (i, 0) (h, 0) r1 d1 { m1 with steps := m1.steps + 1 } (CS.runL X.call X.s fuel l d1) := fun l i j hI hcl hokl hKl hj => by
          have k2 := simSL l hI (i, 0) j r1 d1 { m1 with steps := m1.steps + 1 } hcl hokl hKl (by rw [g3]; exact hl) ov (g2.step d1.m.steps _)
          generalize CS.runL X.call X.s fuel l d1 = p at k2 ⊢
          by_cases hp : p.fin = 0 ∧ p.over = false
          · obtain ⟨r2, m2, j1, j2, j3, j4⟩ := k2.go hp.1 hp.2
            exact ⟨k2.le, fun _ _ => ⟨r2, _, j1.trans (goes_jump hj), j2.step p.m.steps _, j3, by dsimp only at j4 ⊢; omega⟩, fun _ h1 => (by rw [hp.2] at h1; cases h1), fun h0 => absurd hp.1 h0⟩
          · exact k2.over_or hp (by omega)
        by_cases hx : x = 0
        · subst hx
          rw [if_pos rfl] at gf
          simp only [show ((0 : Int) == 0) = true from rfl, cond_true]
          by_cases hel : els = []
          · rw [if_pos hel] at c5
            subst c5; subst hel
            rw [CS.runL]
            exact ⟨k1.le, fun _ _ => ⟨r1, _, g1.trans gf, g2.step d1.m.steps _, g3, by dsimp only; omega⟩, fun _ h1 => (by rw [ov] at h1; cases h1), fun h0 => absurd (by simpa using f1) h0⟩
          · rw [if_neg hel] at c5
            exact StOk.pre (n1 := 8 * e.parts + 1) (side els o a3 hL c5.1 hels (by omega) c5.2) (g1.trans gf) g3 k1.le (by dsimp only; omega) (by omega)
        · rw [if_neg hx] at gf
          rw [show (x == 0) = false by simpa using hx]
          simp only [cond_false]
          exact StOk.pre (n1 := 8 * e.parts + 1) (side thn t a2 hT c3 hthn (by omega) c4) (g1.trans gf) g3 k1.le (by dsimp only; omega) (by omega)
    · obtain ⟨e, rfl⟩ := len_one h1
      rw [if_neg (by decide), if_neg (by decide), if_neg (by decide), if_neg (by decide), if_neg (by decide), if_neg (by decide), if_pos rfl] at hc
      rw [if_neg (by decide), if_pos rfl]
      obtain ⟨g, t, h, a1, a2, c1, c2, c3, c4, c5, rfl⟩ := hc
      simp only [CE.okL] at hes
      simp only [CE.partsL, Nat.add_zero]
      simp only [CE.partsL, Nat.add_zero] at hK
      have e1 : CE.evH X.call X.s [e] = e.ev X.call X.s := funext fun c => by rw [CE.evH]
      rw [e1]
      have g0 := goes_jump (C := X.cl) (s := X.s) (f := X.F) (regs := regs) (m := m) c1
      have k1 := simW (fuel := fuel) hX (hE e (by simp)) (fun a b regs c m h1 h2 h3 h4 => simSL thn hT a b regs c m h1 hthn (by omega) h2 h3 h4) hes.1 (codeL_one c2) c3 c4 c5 (by omega) (fuel.toNat + 1) regs c { m with steps := m.steps + 1 } hl ho (hr.step c.m.steps _)
      exact StOk.pre (n1 := 1) k1 g0 rfl (Nat.le_refl _) (by dsimp only; omega) (by omega)
    · rw [if_neg (by decide), if_neg (by decide), if_neg (by decide), if_pos rfl] at hc
      rw [if_pos rfl]
      obtain ⟨a1, c1, c2⟩ := hc
      have k1 := simL es hE 0 a a1 regs c m c1 hes hl ho hr
      rw [CE.evC_eq _ _ _ hr.cfin, List.nil_append]
      generalize CE.evL X.call X.s es c = q at k1 ⊢
      obtain ⟨xs, c1'⟩ := q
      have le1 := k1.le
      dsimp only at le1 ⊢
      cases e1 : c1'.fin == 0 with
      | false =>
        simp only [cond_false]
        have hne : c1'.fin ≠ 0 := by simpa using e1
        refine ⟨le1, fun h => absurd h hne, fun h => absurd h hne, fun h h5 => ?_⟩
        obtain ⟨m', g1, g2, g3, g4⟩ := k1.stop h h5
        exact ⟨m', g1, g2, g3, by dsimp only at g4 ⊢; omega⟩
      | true =>
        simp only [cond_true]
        obtain ⟨ov, n1, v1, r1, m1, g1, g2, g3, g4, g5, g6⟩ := k1.go (by simpa using e1)
        dsimp only at ov n1 v1 g2 g4 g6
        rw [← n1] at c2
        have k2 := simC hX s0 s1 hfn (by rw [n1]; exact hpar.symm) v1 ov g2 c2 (get_args g4)
        have le2 := k2.le
        generalize X.call s xs c1' = p at k2 le2 ⊢
        obtain ⟨x, c2'⟩ := p
        dsimp only at le2 ⊢
        refine ⟨by omega, fun h _ => ?_, fun h h1 => ?_, fun h h5 => ?_⟩
        · obtain ⟨o2, v2, m2, f1, f2, f3, f4⟩ := k2.go h
          dsimp only at o2 v2 f2 f3 f4
          exact ⟨r1, m2, g1.trans f1, f2, g3, by omega⟩
        · obtain ⟨o2, _⟩ := k2.go h
          dsimp only at o2
          rw [o2] at h1; cases h1
        · obtain ⟨m2, f1, f2, f3, f4⟩ := k2.stop h h5
          dsimp only at f4
          exact ⟨m2, g1.stops f1, f2, f3, by omega⟩
    · rw [if_neg (by decide), if_neg (by decide), if_neg (by decide), if_neg (by decide), if_pos rfl] at hc
      rw [if_neg (by decide), if_neg (by decide)]
      by_cases he : es = []
      · subst he
        rw [if_pos rfl] at hc
        rw [CE.evH]
        dsimp only
        rw [show c.fin = 0 from hr.cfin]
        rw [show ((0 : Int) == 0) = true from rfl, cond_true, if_pos rfl]
        obtain ⟨m', g1, g2, g3, g4⟩ := leave_stops hX hc hl hr hM
        exact ⟨Nat.le_refl _, fun _ h => (by cases h), fun _ _ => ⟨⟨by dsimp only; omega, by dsimp only; omega⟩, m', g1, g2, g3, by dsimp only; omega⟩, fun h => absurd (show c.fin = 0 from hr.cfin) h⟩
      · rw [if_neg he] at hc
        obtain ⟨h1, hw⟩ := h1.resolve_left he
        obtain ⟨e, rfl⟩ := len_one h1
        obtain ⟨a1, c1, c2, c3⟩ := hc
        simp only [CE.okL] at hes
        have k1 := hE e (by simp) 0 a a1 regs c m (codeL_one c1) hes.1 hl ho hr
        rw [CE.evH]
        simp only [CE.partsL, Nat.add_zero]
        simp only [CE.partsL, Nat.add_zero] at hK
        generalize e.ev X.call X.s c = p at k1 ⊢
        obtain ⟨x, d1⟩ := p
        dsimp only
        cases f1 : d1.fin == 0 with
        | false => exact StOk.ended k1 (by simpa using f1) (by omega)
        | true =>
          rw [cond_true]
          rw [if_pos trivial]
          obtain ⟨ov, v1, r1, m1, g1, g2, g3, g4, g5, g6⟩ := k1.go (by simpa using f1)
          dsimp only at ov v1 g2 g4 g6
          obtain ⟨m', j1, j2, j3, j4⟩ := tell_stops (regs := r1) hX c2 c3 g2 (hM hw)
          have le1 := k1.le
          exact ⟨le1, fun _ h => (by cases h), fun _ _ => ⟨v1, m', g1.stops j1, j2, fun _ => j3.trans g4, by dsimp only; omega⟩, fun h => absurd (show d1.fin = 0 by simpa using f1) h⟩
end
end Go.Proofs.Ytmfihmkopmgelaa.Sv
