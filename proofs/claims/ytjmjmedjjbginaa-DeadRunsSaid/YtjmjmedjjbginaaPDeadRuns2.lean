/-
  A CALL THAT LOOKS AT ROWS OF THE CALLER, AND MAY CHANGE THEM: own work, over no program.
  MAPS WHOSE KEYS ARE NUMBERS: own work, over no program.
  MORE OPERATIONS: truth values compared; a number turned: own work, over no program.
  FROM WHAT ARGUMENTS READ AS TO ABSTRACT VALUES; AND FROM A CONTRACT OF PLAIN DATA TO A ROW: own work, over no program.
  THE TYPES OF THE PROGRAM, WRITTEN OUT: printed by a program of our own.
  THE PROGRAM'S DATA, AS LEAN'S, AND AS ABSTRACT VALUES: own work.
  WHAT THE DOCUMENT'S CHAPTERS SAY OF PROGRAMS IN BLOCKS, IN PLAIN LEAN: own work, over no program.
  WORDS' OPERATIONS, IN PLAIN LEAN: own work, over no program.
  FOLDING, IN PLAIN LEAN; maps of words: own work, over no program.
  PROGRAMS IN BLOCKS AS ARGUMENTS: own work, over no program.
  WHAT THE ROWS OF THIS SEAT HAVE IN COMMON: facts of the program, and how its types read: own work.
  FUNCTION VALUES; SLICES THAT ARE NOT AT THEIR ROW'S END; CHANGES IN THOUGHT OF WHAT ROWS HOLD: own work, over no program.
  SLICES CUT TO WHAT THEY HOLD, AND WHAT IS PUT BEHIND THEM; weaker values in thought: own work, over no program.
  WHAT FOLLOWS BLOCKS, AND WHAT IS REACHED, IN PLAIN LEAN: own work, over no program.
  WHAT MATTERS AHEAD OF A BLOCK, AND LEAVING OUT WHAT IS DEAD, ONE BY ONE: own work.
  WORDS BIT BY BIT, AS THE DOCUMENT'S ANSWER HAS THEM, IN PLAIN LEAN: own work, over no program.
  SMALL RULES FOR THE DOCUMENT'S WORDS: own work, over no program.
  THE LAWS OF FOLDING, IN PLAIN LEAN: own work, over no program.
  THE LAW FoldKnown, IN PLAIN LEAN: own work, over no program.
  THE DOCUMENT'S WORDS ARE THE PROGRAM'S, IN PLAIN LEAN: own work, over no program.
  FOLDING INSTRUCTION BY INSTRUCTION, WITH TWO ROWS IN PLACE OF A MAP, IN PLAIN LEAN: own work, over no program.
  BYTES TO A STRING: own work, over no program.
  THE DOCUMENT'S MACHINE OF BLOCKS, IN PLAIN LEAN: own work, over no program.
  THE MACHINE'S LOOPS: what holds at each round, in plain Lean: own work, over no program.
  RUNS THAT HAVE DONE FEWER STEPS END ALIKE, IN PLAIN LEAN: own work, over no program.
  A PROGRAM WITHOUT WHAT IS DEAD ENDS ALIKE, IN NO MORE STEPS, in plain Lean: own work.
  WHAT MATTERS, IN ROWS: own work.
  QUEUES: x[l:] of a row, and what is put behind it; which place that takes isn't known beforehand: own work, over no program.
  CALLS THAT SEE ALL ROWS BUT SOME; LOOPS THAT FORGET SOME ROWS; SCOPES; SLICES OF NOTHING, NIL AND CLEAR: own work, over no program.
  LOOPS OF A KNOWN NUMBER OF ROUNDS, ONE ROUND BEHIND THE OTHER: own work, over no program.
  THE PARTS OF AN ARRAY THAT IS A VALUE: own work, over no program.
  STRINGS: ends, sums, and their bytes in a row of one's own: own work, over no program.
  ARRAYS OF NUMBERS: whether two are the same, and maps whose keys they are: own work, over no program.
  SLICES THAT BEGIN WITH NOTHING AND GROW, AND ROWS THAT MAY BE EMPTY, IN THE CELLS OF OTHER ROWS: own work, over no program.
  A slice that is copied behind nothing: own work.
-/
import Derived.Test.YtjmjmedjjbginaaPDeadRuns1
import Derived.MapKept
import Derived.ProofKit
import Derived.OpenShut
import Derived.SizedLaws
import Derived.Test.YtjmjmedjjbginaaProg
import Derived.KernelRfl
import Derived.Test.YtjmjmedjjbginaaRows
import Derived.Laws.BytesString
import Derived.Scope
import Derived.Lib.SliceRun
import Derived.Lib.ConvBytes
import Derived.WideKeyRuns
namespace Go.Proofs.Ytjmjmedjjbginaa.Sv
open Go

def mem (L : List Nat) : Nat → Bool := fun b => L.any (fun c => Nat.beq b c)
theorem mem_iff {L : List Nat} {b : Nat} : mem L b = true ↔ b ∈ L := by
  unfold mem
  rw [List.any_eq_true]
  constructor
  · rintro ⟨c, h1, h2⟩
    rw [Nat.eq_of_beq_eq_true h2]; exact h1
  · exact fun h => ⟨b, h, Nat.beq_refl b⟩
def hres (h : AHeap) (L : List Nat) : AHeap := fun b => bif mem L b then h b else some .free
theorem hres_nil (h : AHeap) : hres h [] = hNew := rfl
theorem hres_cons {h h' : AHeap} {L : List Nat} {b : Nat} {o : AObj} (ho : h b = some o) (hr : hres h L = h') : hres h (b :: L) = hput h' b o := by
  subst hr
  funext x
  by_cases hx : x = b
  · subst hx
    rw [hput_same]
    have : mem (x :: L) x = true := mem_iff.2 (by simp)
    simp only [hres, this, cond_true]; exact ho
  · rw [hput_ne _ _ hx]
    have : mem (b :: L) x = mem L x := by
      simp only [mem, List.any_cons, beq_false_of_ne hx, Bool.false_or]
    simp only [hres, this]

def AllL : List Nat → (Nat → Prop) → Prop
  | [], _ => True
  | b :: L, p => p b ∧ AllL L p
theorem AllL.get {p : Nat → Prop} : ∀ {L : List Nat}, AllL L p → ∀ b ∈ L, p b
  | b :: L, h, c, hc => by
    rcases List.mem_cons.1 hc with rfl | hc
    · exact h.1
    · exact AllL.get h.2 c hc
def lmix (ι ι' : Lay) (L : List Nat) : Lay := fun b => bif mem L b then ι' b else ι b

theorem hputs_not {W : List (Nat × AObj)} {b : Nat} : ∀ {h : AHeap}, (∀ p ∈ W, p.1 ≠ b) → hputs h W b = h b := by
  induction W with
  | nil => exact fun _ => rfl
  | cons p W ih =>
    intro h hp
    show hputs (hput h p.1 p.2) W b = h b
    rw [ih (fun q hq => hp q (List.mem_cons_of_mem _ hq)), hput_ne _ _ (fun e => hp p List.mem_cons_self e.symm)]

theorem hputs_agree {W : List (Nat × AObj)} {b : Nat} : ∀ {h h' : AHeap}, h b = h' b → hputs h W b = hputs h' W b := by
  induction W with
  | nil => exact fun h => h
  | cons p W ih =>
    intro h h' hh
    refine ih ?_
    by_cases hb : b = p.1
    · subst hb; rw [hput_same, hput_same]
    · rw [hput_ne _ _ hb, hput_ne _ _ hb, hh]

theorem call_mix {H : Know} {ι : Lay} {h : AHeap} {w : World} {L : List Nat} {W : List (Nat × AObj)} {H' : Know} {ι' : Lay} {h' : AHeap} {w' : World} (hr : HeapRel H ι h w)
    (hL : ∀ b ∈ L, ∃ o, h b = some o ∧ o.avoid (mem L) = true) (hW : ∀ p ∈ W, p.1 ∈ L)
    (hk : ∀ b ∈ L, ∃ o, h' b = some o ∧ hputs h W b = some o ∧ o.avoid (mem L) = true)
    (hr' : HeapRel H' ι' h' w') (hst : Step H (lcut ι (mem L)) (hres h L) w H' ι' h' w') :
    HeapRel H' (lmix ι ι' L) (hputs h W) w' ∧ Step H ι h w H' (lmix ι ι' L) (hputs h W) w' := by
  have mT : ∀ b, b ∈ L → lmix ι ι' L b = ι' b := fun b hb => by simp only [lmix, mem_iff.2 hb, cond_true]
  have mF : ∀ b, b ∉ L → lmix ι ι' L b = ι b := fun b hb => by
    have : mem L b = false := by cases e : mem L b with | false => rfl | true => exact absurd (mem_iff.1 e) hb
    simp only [lmix, this, cond_false]
  have cT : ∀ b, b ∈ L → lcut ι (mem L) b = ι b := fun b hb => lcut_lt (mem_iff.2 hb)
  have rT : ∀ b, b ∈ L → hres h L b = h b := fun b hb => by simp only [hres, mem_iff.2 hb, cond_true]
  have rF : ∀ b, b ∉ L → hres h L b = some .free := fun b hb => by
    have : mem L b = false := by cases e : mem L b with | false => rfl | true => exact absurd (mem_iff.1 e) hb
    simp only [hres, this, cond_false]
  have wF : ∀ b, b ∉ L → hputs h W b = h b := fun b hb => hputs_not fun p hp e => hb (e ▸ hW p hp)
  have own : ∀ rb, Owned (hres h L) (lcut ι (mem L)) rb → Owned h ι rb := by
    rintro rb ⟨b, o, r, h1, h2, h3, h4, h5⟩
    by_cases hb : b ∈ L
    · exact ⟨b, o, r, by rw [← rT b hb]; exact h1, h2, lcut_some h3, h4, h5⟩
    · rw [rF b hb] at h1; cases h1; cases h2
  -- rows that the call didn't see are none of its
  have apart : ∀ b o r, b ∉ L → h b = some o → o.alive = true → ι b = some r → r.solid → ¬ Owned (hres h L) (lcut ι (mem L)) r.rb := by
    rintro b o r hb h1 h2 h3 h4 ⟨b', o', r', g1, g2, g3, g4, g5⟩
    by_cases hb' : b' ∈ L
    · exact hr.inj b b' o o' r r' h1 h2 (by rw [← rT b' hb']; exact g1) g2 h3 (lcut_some g3) h4 g4 (fun e => hb (e ▸ hb')) g5.symm
    · rw [rF b' hb'] at g1; cases g1; cases g2
  have lle : LLe ι (lmix ι ι' L) := fun b r e => by
    by_cases hb : b ∈ L
    · rw [mT b hb]; exact hst.lle b r (by rw [cT b hb]; exact e)
    · rw [mF b hb]; exact ⟨r, e, .inl rfl⟩
  have lle' : LLe (lcut ι' (mem L)) (lmix ι ι' L) := fun b r e => by
    by_cases hb : b ∈ L
    · rw [mT b hb]; exact ⟨r, lcut_some e, .inl rfl⟩
    · have : mem L b = false := by cases e : mem L b with | false => rfl | true => exact absurd (mem_iff.1 e) hb
      simp only [lcut, this, cond_false] at e; cases e
  have blk : ∀ b o r, b ∉ L → h b = some o → o.alive = true → ι b = some r → r.solid → w'.heap[r.rb]? = w.heap[r.rb]? := fun b o r hb h1 h2 h3 h4 =>
    hst.keep r.rb (hr.lt ⟨b, o, r, h1, h2, h3, h4, rfl⟩) (apart b o r hb h1 h2 h3 h4)
  have noK : ∀ b o r, b ∉ L → h b = some o → o.alive = true → ι b = some r → r.solid → H r.rb = none → H' r.rb = none := fun b o r hb h1 h2 h3 h4 h5 => by
    cases e : H' r.rb with
    | none => rfl
    | some c =>
      rcases hst.knew r.rb (by rw [e]; simp) with g | g | g
      · exact absurd h5 g
      · have := hr.lt ⟨b, o, r, h1, h2, h3, h4, rfl⟩; omega
      · exact absurd g (apart b o r hb h1 h2 h3 h4)
  -- a row of the call's, afterwards: not one of those that it didn't see
  have apart' : ∀ b b' o r r', b ∉ L → b' ∈ L → h b = some o → o.alive = true → ι b = some r → r.solid → ι' b' = some r' → r'.solid → r.rb ≠ r'.rb := fun b b' o r r' hb hb' h1 h2 h3 h4 g1 g2 e => by
    have alive' : ∀ r0, ι b' = some r0 → r0.solid → r0.rb = r'.rb → False := fun r0 e0 es e1 => by
      obtain ⟨o0, k1, _⟩ := hL b' hb'
      have ka : o0.alive = true := by
        cases o0 with
        | free => rw [hr.free b' k1] at e0; cases e0
        | _ => rfl
      exact hr.inj b b' o o0 r r0 h1 h2 k1 ka h3 e0 h4 es (fun e => hb (e ▸ hb')) (e.trans e1.symm)
    rcases hst.newrb b' r' g1 g2 with k | k | ⟨r0, k1, k2, k3⟩
    · exact alive' r' (lcut_some k) g2 rfl
    · have := hr.lt ⟨b, o, r, h1, h2, h3, h4, rfl⟩; omega
    · exact alive' r0 (lcut_some k1) k2 k3
  refine ⟨⟨hr'.know, fun b hb => ?_, fun b o h1 h2 => ?_, fun b b' o o' r r' h1 h2 h3 h4 h5 h6 s1 s2 hne => ?_, hr'.glob⟩, ⟨hst.size, hst.os, hst.out, fun rb hlt hno => hst.keep rb hlt (fun h => hno (own rb h)), hst.kle, fun b hb => ?_, lle, fun b e => ?_, fun b r' e es => ?_, fun b e => ?_⟩⟩
  · by_cases hbL : b ∈ L
    · obtain ⟨o, k1, k2, _⟩ := hk b hbL
      rw [k2] at hb; cases hb
      rw [mT b hbL]; exact hr'.free b k1
    · rw [wF b hbL] at hb; rw [mF b hbL]; exact hr.free b hb
  · by_cases hbL : b ∈ L
    · obtain ⟨o', k1, k2, k3⟩ := hk b hbL
      rw [k2] at h1; cases h1
      obtain ⟨r, r1, r2, r3⟩ := hr'.obj b o k1 h2
      exact ⟨r, by rw [mT b hbL]; exact r1, (objOk_cut r2 k3).mono (KLe.refl _) lle' (fun _ => rfl), r3⟩
    · rw [wF b hbL] at h1
      obtain ⟨r, r1, r2, r3⟩ := hr.obj b o h1 h2
      exact ⟨r, by rw [mF b hbL]; exact r1, r2.mono hst.kle lle (fun hs => blk b o r hbL h1 h2 r1 hs), fun hs => noK b o r hbL h1 h2 r1 hs (r3 hs)⟩
  · by_cases hb : b ∈ L <;> by_cases hb' : b' ∈ L
    · obtain ⟨q, k1, k2, _⟩ := hk b hb
      obtain ⟨q', k1', k2', _⟩ := hk b' hb'
      rw [k2] at h1; cases h1
      rw [k2'] at h3; cases h3
      rw [mT b hb] at h5; rw [mT b' hb'] at h6
      exact hr'.inj b b' _ _ r r' k1 h2 k1' h4 h5 h6 s1 s2 hne
    · rw [wF b' hb'] at h3; rw [mF b' hb'] at h6; rw [mT b hb] at h5
      exact fun e => apart' b' b o' r' r hb' hb h3 h4 h6 s2 h5 s1 e.symm
    · rw [wF b hb] at h1; rw [mF b hb] at h5; rw [mT b' hb'] at h6
      exact apart' b b' o r r' hb hb' h1 h2 h5 s1 h6 s2
    · rw [wF b hb] at h1; rw [mF b hb] at h5; rw [wF b' hb'] at h3; rw [mF b' hb'] at h6
      exact hr.inj b b' o o' r r' h1 h2 h3 h4 h5 h6 s1 s2 hne
  · rcases hst.knew b hb with g | g | g
    · exact .inl g
    · exact .inr (.inl g)
    · exact .inr (.inr (own b g))
  · by_cases hb : b ∈ L
    · obtain ⟨o, k1, _⟩ := hL b hb; rw [k1] at e; cases e
    · exact mF b hb
  · by_cases hb : b ∈ L
    · rw [mT b hb] at e
      rcases hst.newrb b r' e es with k | k | ⟨r0, k1, k2, k3⟩
      · exact .inl (lcut_some k)
      · exact .inr (.inl k)
      · exact .inr (.inr ⟨r0, lcut_some k1, k2, k3⟩)
    · rw [mF b hb] at e; exact .inl e
  · by_cases hb : b ∈ L
    · obtain ⟨o, k1, _⟩ := hL b hb; rw [k1] at e; cases e
    · rw [wF b hb]; exact e

section
variable {P : Program} {o : Oper} {e : AEnv} {h : AHeap}
theorem o_call {f : FuncId} {fn : Func} {args : Array Operand} {tys : Array TypeId} {xs : List AV} {r : AV} {hc hw : AHeap} (L : List Nat) (W : List (Nat × AObj)) (ho : o.op = .call { callee := .value (.func f), args := args, argTypes := tys }) (hf : P.funcs[f]? = some fn) (hn : (fn.name == "runtime.NumGoroutine") = false) (hb : fn.body.isSome = true)
    (hx : lookAll e args.toList = some xs) (hxa : xs.all (AV.avoid (mem L)) = true) (hL : AllL L fun b => ∃ q, h b = some q ∧ q.avoid (mem L) = true) (hW : W.all (fun p => mem L p.1) = true) (hres' : hres h L = hc)
    (hk : AllL L fun b => ∃ q, hw b = some q ∧ hputs h W b = some q ∧ q.avoid (mem L) = true) (hra : r.avoid (mem L) = true)
    (hcall : ACall P f xs hc (fun r' h' => r' = r ∧ HSub hw h')) : OLoc P o e h L W (some r) := by
  intro H ι a w s Q hs g1 g2
  have hx' : lookAll s.env args.toList = some xs := by
    rw [lookAll_agree (e := e) (fun x hx => g1 x (by rw [ho]; simp [Op.operands, Call.operands]; exact .inr (by simpa using hx)))]; exact hx
  have hraa := relAll_map hs hx'
  have hra' : RelAll H (lcut ι (mem L)) xs (args.map a.eval) := ⟨hraa.1, fun j x v h1 h2 => avoid_rel (hraa.2 j x v h1 h2) (all_get hxa h1)⟩
  have hLs : ∀ b ∈ L, ∃ q, s.h b = some q ∧ q.avoid (mem L) = true := fun b hb => by rw [g2 b hb]; exact hL.get b hb
  have hres2 : hres s.h L = hc := by
    rw [← hres']
    funext b
    unfold hres
    cases e : mem L b with
    | true => simp only [cond_true]; exact g2 b (mem_iff.1 e)
    | false => rfl
  have hrc : HeapRel H (lcut ι (mem L)) (hres s.h L) w := by
    have key : ∀ b o, hres s.h L b = some o → o.alive = true → b ∈ L ∧ s.h b = some o := fun b o h1 h2 => by
      unfold hres at h1
      cases e : mem L b with
      | true => rw [e] at h1; exact ⟨mem_iff.1 e, h1⟩
      | false => rw [e] at h1; cases h1; cases h2
    refine ⟨hs.heap.know, fun b hb => ?_, fun b o h1 h2 => ?_, fun b b' o o' r r' h1 h2 h3 h4 h5 h6 => ?_, hs.heap.glob⟩
    · unfold hres at hb
      unfold lcut
      cases e : mem L b with
      | true => rw [e] at hb; exact hs.heap.free b hb
      | false => rfl
    · obtain ⟨k1, k2⟩ := key b o h1 h2
      obtain ⟨r, r1, r2, r3⟩ := hs.heap.obj b o k2 h2
      obtain ⟨q, q1, q2⟩ := hLs b k1
      rw [k2] at q1; cases q1
      exact ⟨r, by rw [lcut_lt (mem_iff.2 k1)]; exact r1, objOk_cut r2 q2, r3⟩
    · exact hs.heap.inj b b' o o' r r' (key b o h1 h2).2 h2 (key b' o' h3 h4).2 h4 (lcut_some h5) (lcut_some h6)
  have hcalls := hcall H (lcut ι (mem L)) w _ hra' (hres2 ▸ hrc)
  have hexec : (execOp a.eval o).run P w = .ok (.enter f (args.map a.eval)) w := by
    simp [execOp, ho, resolve, Act.eval, Deferred.ofValue, invoke, run_callFunc hf hn hb]
  unfold Oper.wp
  rw [hexec]
  refine hcalls.mono fun en w' hh => ?_
  obtain ⟨v, r', h', H', ι', rfl, ⟨rfl, hsub⟩, k1, k2, k3⟩ := hh
  have hk' : ∀ b ∈ L, ∃ q, h' b = some q ∧ hputs s.h W b = some q ∧ q.avoid (mem L) = true := fun b hb => by
    obtain ⟨q, q1, q2, q3⟩ := hk.get b hb
    exact ⟨q, hsub b q q1, by rw [hputs_agree (g2 b hb)]; exact q2, q3⟩
  obtain ⟨u1, u2⟩ := call_mix hs.heap hLs (fun p hp => mem_iff.1 (List.all_eq_true.1 hW p hp)) hk' k2 (hres2.symm ▸ k3)
  refine ⟨v, H', _, rfl, fun x ex => ?_, u1, u2⟩
  cases ex
  refine (avoid_rel k1 hra).mono (KLe.refl _) fun b r e => ?_
  by_cases hb : b ∈ L
  · exact ⟨r, by simp only [lmix, mem_iff.2 hb, cond_true]; exact lcut_some e, .inl rfl⟩
  · have : mem L b = false := by cases e : mem L b with | false => rfl | true => exact absurd (mem_iff.1 e) hb
    simp only [lcut, this, cond_false] at e; cases e

end
end Go.Proofs.Ytjmjmedjjbginaa.Sv

namespace Go.Proofs.Ytjmjmedjjbginaa.Sv
open Go

abbrev NMap := List (Int × AV)
def kvs (K : IntKind) (m : NMap) : List (AV × AV) := m.map fun p => (.int K p.1, p.2)
inductive EntRel (H : Know) (K : IntKind) : NMap → List MapEntry → Prop
  | nil : EntRel H K [] []
  | cons (z : Int) (v : AV) (m : NMap) (e : MapEntry) (es : List MapEntry) (hk : e.key = .int K z) (hv : Rel H noLay v e.val) (h : EntRel H K m es) : EntRel H K ((z, v) :: m) (e :: es)

theorem EntRel.out {H : Know} {K : IntKind} {m : NMap} {es : List MapEntry} (h : EntRel H K m es) : (kvs K m).length = es.length ∧ ∀ (j : Nat) (k v : AV), (kvs K m)[j]? = some (k, v) → ∃ e, es[j]? = some e ∧ Rel H noLay k e.key ∧ Rel H noLay v e.val := by
  induction h with
  | nil => exact ⟨rfl, fun j k v h => by simp [kvs] at h⟩
  | cons z v m e es hk hv h ih =>
    refine ⟨by simpa [kvs] using ih.1, fun j k u hj => ?_⟩
    cases j with
    | zero =>
      simp [kvs] at hj
      obtain ⟨rfl, rfl⟩ := hj
      exact ⟨e, rfl, by rw [hk]; exact .int _ _ _, hv⟩
    | succ j =>
      obtain ⟨e', k1, k2⟩ := ih.2 j k u (by simpa [kvs] using hj)
      exact ⟨e', by simpa using k1, k2⟩

section
variable {P : Program} {T : Nat → Option TyI} {o : Oper} {e : AEnv} {h : AHeap}

end
end Go.Proofs.Ytjmjmedjjbginaa.Sv

namespace Go.Proofs.Ytjmjmedjjbginaa.Sv
open Go
section
variable {P : Program} {T : Nat → Option TyI} {o : Oper} {e : AEnv} {h : AHeap}

end
end Go.Proofs.Ytjmjmedjjbginaa.Sv

namespace Go.Proofs.Ytjmjmedjjbginaa.Sv
open Go Go.ChangeShapes Go.WideShapes Go.ChangeAt Go.RowKit

def heapKnow (W : World) : Know := fun b => match W.heap[b]? with
  | some (.cells c _ _) => some c
  | _ => none
theorem heapKnow_ok (W : World) (hg : GlobOk (heapKnow W)) : KnowOk (heapKnow W) W where
  know := fun b c h => by
    unfold heapKnow at h
    split at h
    · rename_i c' T fr e; cases h; exact ⟨T, fr, e⟩
    · cases h
  glob := hg
theorem heapKnow_cell {W : World} {a : Addr} {v : Value} (h : W.cell? a = some v) : ∃ c, heapKnow W a.block = some c ∧ a.spot = none ∧ c[a.off]? = some v := by
  unfold World.cell? at h
  split at h
  · rename_i c T fr e
    split at h
    · cases h
    · rename_i hs
      refine ⟨c, by simp [heapKnow, e], ?_, h⟩
      cases e2 : a.spot with
      | none => rfl
      | some x => simp [e2] at hs
  · cases h

def Reads (W : World) (cs : List Value) (xs : List AV) : Prop := xs.length = cs.length ∧ ∀ (j : Nat) (x : AV) (v : Value), xs[j]? = some x → cs[j]? = some v → Rel (heapKnow W) noLay x v ∧ x.cell1 = true

section
variable {H : Type}
def Dec (enc : TypeId × Value → H) (P : Program) (W : World) (t : TypeId) {α : Type} (f : α → List AV) (Q : α → Prop) : Prop :=
  ∀ (fuel : Nat) (cs : List Value) (x : DataW H × List MemPlace), DataW.trod enc P W 0 (fun _ => true) true fuel t cs = some x → (x.1.weights P t).all (· ≤ reachBytes) = true → ∃ a, Reads W cs (f a) ∧ Q a

variable {enc : TypeId × Value → H} {P : Program} {W : World} {t e : TypeId}

theorem Reads.one {v : Value} {x : AV} (h : Rel (heapKnow W) noLay x v) (h1 : x.cell1 = true) : Reads W [v] [x] := ⟨rfl, fun j y u hy hu => by
  cases j with
  | zero => simp at hy hu; subst hy; subst hu; exact ⟨h, h1⟩
  | succ j => simp at hy⟩

theorem Dec.int {k : IntKind} (ht : P.underlying t = some (.int k)) : Dec enc P W t (fun n : Int => [.int k n]) (fun n => (Lit.int k n).wf = true) := fun fuel cs x h _ => by
  obtain ⟨n, rfl, rfl, hw⟩ := DataW.trod_int ht h
  exact ⟨n, .one (.int _ _ _) rfl, hw⟩
theorem Dec.bool (ht : P.underlying t = some .bool) : Dec enc P W t (fun b : Bool => [.bool b]) (fun _ => True) := fun fuel cs x h _ => by
  obtain ⟨b, rfl, rfl⟩ := DataW.trod_bool ht h
  exact ⟨b, .one (.bool _ _) rfl, trivial⟩
theorem Dec.string (ht : P.underlying t = some .string) : Dec enc P W t (fun s : ByteArray => [.str s]) (fun s => s.size ≤ maxLen ∧ s.size ≤ reachBytes) := fun fuel cs x h hw => by
  obtain ⟨s, rfl, rfl, hs⟩ := DataW.trod_string ht h
  refine ⟨s, .one (.str _ _) rfl, hs, ?_⟩
  simpa [DataW.weights] using hw

theorem exists_list {α : Type} {R : Nat → α → Prop} : ∀ n : Nat, (∀ i, i < n → ∃ a, R i a) → ∃ l : List α, l.length = n ∧ ∀ i a, l[i]? = some a → R i a
  | 0, _ => ⟨[], rfl, fun i a h => by simp at h⟩
  | n + 1, h => by
    obtain ⟨l, h1, h2⟩ := exists_list n (fun i hi => h i (by omega))
    obtain ⟨a, ha⟩ := h n (by omega)
    refine ⟨l ++ [a], by simp [h1], fun i b hb => ?_⟩
    by_cases hi : i < n
    · rw [List.getElem?_append_left (by omega)] at hb; exact h2 i b hb
    · rw [List.getElem?_append_right (by omega)] at hb
      have : i = n := by
        rcases Nat.lt_or_ge (i - l.length) 1 with h | h
        · omega
        · rw [List.getElem?_eq_none (by simpa using h)] at hb; cases hb
      subst this
      simp [h1] at hb
      subst hb; exact ha

theorem weightsAll_get : ∀ {ds : List (DataW H)} {d : DataW H} {i : Nat}, (DataW.weightsAll P e ds).all (· ≤ reachBytes) = true → ds[i]? = some d → (d.weights P e).all (· ≤ reachBytes) = true
  | [], _, _, _, h => by simp at h
  | d :: r, d', 0, hw, h => by
    simp at h; subst h
    simp only [DataW.weightsAll, List.all_append, Bool.and_eq_true] at hw
    exact hw.1
  | d :: r, d', i + 1, hw, h => by
    simp only [DataW.weightsAll, List.all_append, Bool.and_eq_true] at hw
    exact weightsAll_get (ds := r) hw.2 (by simpa using h)

theorem Dec.slice {α : Type} {f : α → List AV} {Q : α → Prop} (ht : P.underlying t = some (.slice e)) (hc : 0 < P.cellsOf e) (he : Dec enc P W e f Q) :
    Dec enc P W t (fun l : List α => [.lst false (l.map f)]) (fun l => l.length * P.bytesOf e ≤ reachBytes ∧ ∀ a ∈ l, Q a) := fun fuel cs x h hw => by
  rcases DataW.trod_slice ht h with ⟨rfl, rfl⟩ | ⟨a, len, cap, elems, rest, n, rfl, rfl, rfl, hb, hl, hm, hlen, hel, hsp, hns⟩
  · exact ⟨[], .one (.lst0 _ _ _ _ (fun h => by cases h) (Nat.zero_le _) (fun _ => rfl) trivial) rfl, by simp, fun a h => by cases h⟩
  simp only [DataW.weights, ht, List.all_cons, List.all_append, Bool.and_eq_true, decide_eq_true_eq, List.length_map] at hw
  obtain ⟨w1, w2, w3⟩ := hw
  have key : ∀ i, i < len → ∃ y, ∃ cs', W.cells? 0 (a.add (i * P.cellsOf e)) (P.cellsOf e) = some cs' ∧ Reads W cs' (f y) ∧ Q y := fun i hi => by
    have h1 := hel i hi
    have hlt : i < elems.length := by omega
    rw [List.getElem?_eq_getElem hlt] at h1
    rw [Option.bind_eq_some_iff] at h1
    obtain ⟨cs', c1, c2⟩ := h1
    obtain ⟨y, y1, y2⟩ := he _ _ _ c2 (weightsAll_get w2 (i := i) (by rw [List.getElem?_map, List.getElem?_eq_getElem hlt]; rfl))
    exact ⟨y, cs', c1, y1, y2⟩
  obtain ⟨l, l1, l2⟩ := exists_list len key
  have hQ : ∀ y ∈ l, Q y := fun y hy => by
    obtain ⟨i, hi⟩ := List.mem_iff_getElem?.1 hy
    obtain ⟨cs', _, _, q⟩ := l2 i y hi
    exact q
  have hbytes : l.length * P.bytesOf e ≤ reachBytes := by
    refine Nat.le_trans (Nat.mul_le_mul_right _ ?_) w1
    omega
  refine ⟨l, .one ?_ rfl, hbytes, hQ⟩
  by_cases h0 : len = 0
  · have : l = [] := List.length_eq_zero_iff.1 (by omega)
    subst this; subst h0
    exact .lst0 _ _ _ _ (fun h => by cases h) hm (fun h => by cases h) trivial
  · obtain ⟨y0, cs0, k1, k2, k3⟩ := key 0 (by omega)
    obtain ⟨_, m1, m2⟩ := World.cells?_some k1
    have hz : cs0[0]? = some cs0[0] := List.getElem?_eq_getElem (by omega)
    have hcell := m2 0 hc
    rw [hz] at hcell
    have ha0 : (a.add (0 * P.cellsOf e)).add 0 = a := by simp [Addr.add]
    rw [ha0] at hcell
    obtain ⟨c, hH, hspot, _⟩ := heapKnow_cell hcell
    obtain ⟨ab, ao, asp⟩ := a
    simp only at hspot hH
    subst hspot
    have hsz : ∀ (i : Nat) (xs : List AV), (l.map f)[i]? = some xs → xs.length = P.cellsOf e ∧ ∀ (j : Nat) (x : AV), xs[j]? = some x → ∃ v, c[ao + i * P.cellsOf e + j]? = some v ∧ Rel (heapKnow W) noLay x v ∧ x.cell1 = true := fun i xs hi => by
      rw [List.getElem?_map, Option.map_eq_some_iff] at hi
      obtain ⟨y, y1, rfl⟩ := hi
      obtain ⟨cs', c1, c2, c3⟩ := l2 i y y1
      obtain ⟨_, n1, n2⟩ := World.cells?_some c1
      refine ⟨by rw [c2.1, n1], fun j x hj => ?_⟩
      have hjlt : j < cs'.length := by rw [← c2.1]; exact (List.getElem?_eq_some_iff.1 hj).1
      have h3 := n2 j (by omega)
      rw [List.getElem?_eq_getElem hjlt, add_mk, add_mk] at h3
      obtain ⟨c', e1, _, e3⟩ := heapKnow_cell h3
      simp only at e1 e3
      rw [hH] at e1; cases e1
      obtain ⟨g1, g2⟩ := c2.2 j x _ hj (List.getElem?_eq_getElem hjlt)
      exact ⟨_, e3, g1, g2⟩
    have := Rel.lst (H := heapKnow W) noLay false (l.map f) ab ao cap (P.cellsOf e) c (fun i j => (c[ao + i * P.cellsOf e + j]?).getD undef) (fun hh => by rw [List.map_eq_nil_iff] at hh; subst hh; simp at l1; omega) hH
      (fun i xs hi => (hsz i xs hi).1) (fun i xs j x hi hj => by obtain ⟨v, v1, _⟩ := (hsz i xs hi).2 j x hj; rw [v1]; rfl)
      (fun i xs j x hi hj => by obtain ⟨v, v1, v2, _⟩ := (hsz i xs hi).2 j x hj; rw [v1]; exact v2) (fun i xs j x hi hj => by obtain ⟨v, v1, v2, v3⟩ := (hsz i xs hi).2 j x hj; exact v3) (fun h => by cases h) (by simp [l1]; exact hl) hm
    rw [List.length_map, l1] at this
    exact this
variable {T : Nat → Option TyI}
theorem cellsOf_of {i : TyI} (hT : TOk P T) (hi : T t = some i) : P.cellsOf t = i.size := by
  obtain ⟨info, d, e1, e2, e3, e4, e5, e6⟩ := tyOf_spec (hT _ _ hi)
  simp [Program.cellsOf, e1, e4]
theorem bytesOf_of {i : TyI} (hT : TOk P T) (hi : T t = some i) : P.bytesOf t = i.bytes := by
  obtain ⟨info, d, e1, e2, e3, e4, e5, e6⟩ := tyOf_spec (hT _ _ hi)
  simp [Program.bytesOf, e1, e5]
theorem Dec.int' {k : IntKind} {i : TyI} (hT : TOk P T) (hi : T t = some i) (hk : i.k = .int k) : Dec enc P W t (fun n : Int => [.int k n]) (fun n => (Lit.int k n).wf = true) := by
  obtain ⟨info, d, e1, e2, e3, e4, e5, e6⟩ := tyOf_spec (hT _ _ hi)
  have hd := tk_int (P := P) (d := d) (e3 ▸ hk)
  subst hd
  exact Dec.int e2
theorem Dec.bool' {i : TyI} (hT : TOk P T) (hi : T t = some i) (hk : i.k = .bool) : Dec enc P W t (fun b : Bool => [.bool b]) (fun _ => True) := by
  obtain ⟨info, d, e1, e2, e3, e4, e5, e6⟩ := tyOf_spec (hT _ _ hi)
  have hd := tk_bool (P := P) (d := d) (e3 ▸ hk)
  subst hd
  exact Dec.bool e2
theorem Dec.string' {i : TyI} (hT : TOk P T) (hi : T t = some i) (hk : i.k = .string) : Dec enc P W t (fun s : ByteArray => [.str s]) (fun s => s.size ≤ maxLen ∧ s.size ≤ reachBytes) := by
  obtain ⟨info, d, e1, e2, e3, e4, e5, e6⟩ := tyOf_spec (hT _ _ hi)
  have hd := tk_string (P := P) (d := d) (e3 ▸ hk)
  subst hd
  exact Dec.string e2
theorem Dec.slice' {α : Type} {f : α → List AV} {Q : α → Prop} {i j : TyI} {u : Nat} (hT : TOk P T) (hi : T t = some i) (hk : i.k = .slice u) (hj : T u = some j) (hp : 0 < j.size) (he : Dec enc P W u f Q) :
    Dec enc P W t (fun l : List α => [.lst false (l.map f)]) (fun l => l.length * j.bytes ≤ reachBytes ∧ ∀ a ∈ l, Q a) := by
  obtain ⟨info, d, e1, e2, e3, e4, e5, e6⟩ := tyOf_spec (hT _ _ hi)
  have hd := tk_slice (P := P) (d := d) (e3 ▸ hk)
  subst hd
  have := Dec.slice (enc := enc) (W := W) e2 (by rw [cellsOf_of hT hj]; exact hp) he
  rwa [bytesOf_of hT hj] at this

theorem weightsEach_get : ∀ {ts : List TypeId} {ds : List (DataW H)} {t : TypeId} {d : DataW H} {i : Nat}, (DataW.weightsEach P ts ds).all (· ≤ reachBytes) = true → ts[i]? = some t → ds[i]? = some d → (d.weights P t).all (· ≤ reachBytes) = true
  | [], _, _, _, _, _, h, _ => by simp at h
  | _ :: _, [], _, _, _, _, _, h => by simp at h
  | t :: ts, d :: ds, t', d', 0, hw, h1, h2 => by
    simp at h1 h2; subst h1; subst h2
    simp only [DataW.weightsEach, List.all_append, Bool.and_eq_true] at hw
    exact hw.1
  | t :: ts, d :: ds, t', d', i + 1, hw, h1, h2 => by
    simp only [DataW.weightsEach, List.all_append, Bool.and_eq_true] at hw
    exact weightsEach_get (ts := ts) (ds := ds) hw.2 (by simpa using h1) (by simpa using h2)
def Parts (enc : TypeId × Value → H) (P : Program) (W : World) (T : Nat → Option TyI) (cs : List Value) (fs : List (Nat × Nat)) : Prop :=
  ∀ (i off u : Nat), fs[i]? = some (off, u) → ∀ {α : Type} {f : α → List AV} {Q : α → Prop}, Dec enc P W u f Q → ∃ a, Reads W ((cs.drop off).take (P.cellsOf u)) (f a) ∧ Q a

theorem struct_parts {i : TyI} {fs : List (Nat × Nat)} (hT : TOk P T) (hi : T t = some i) (hk : i.k = .struct fs) {fuel : Nat} {cs : List Value} {x : DataW H × List MemPlace} (h : DataW.trod enc P W 0 (fun _ => true) true fuel t cs = some x) (hw : (x.1.weights P t).all (· ≤ reachBytes) = true) :
    cs.length = i.size ∧ Parts enc P W T cs fs := by
  obtain ⟨info, d, e1, e2, e3, e4, e5, e6⟩ := tyOf_spec (hT _ _ hi)
  obtain ⟨A, rfl, rfl, _⟩ := tk_struct (P := P) (d := d) (e3 ▸ hk)
  obtain ⟨xs, n, rfl, rfl, hl, hxl, hx⟩ := DataW.trod_struct e2 h
  refine ⟨by rw [hl, cellsOf_of hT hi], fun j off u hj α f Q hd => ?_⟩
  rw [List.getElem?_map, Option.map_eq_some_iff] at hj
  obtain ⟨F, hF, hF2⟩ := hj
  simp only [Prod.mk.injEq] at hF2
  obtain ⟨rfl, rfl⟩ := hF2
  have hFa : A[j]? = some F := by simpa using hF
  have hjlt : j < xs.length := by rw [hxl]; exact (Array.getElem?_eq_some_iff.1 hFa).1
  have h1 := hx j F hFa
  rw [List.getElem?_eq_getElem hjlt] at h1
  simp only [DataW.weights, e2] at hw
  exact hd _ _ _ h1 (weightsEach_get hw (i := j) (by rw [List.getElem?_map, hF]; rfl) (by rw [List.getElem?_map, List.getElem?_eq_getElem hjlt]; rfl))

theorem Reads.nil (W : World) (cs : List Value) : Reads W (cs.take 0) [] := ⟨by simp, fun j x v h => by simp at h⟩
theorem Reads.app {cs : List Value} {off n : Nat} {xs ys : List AV} (h1 : Reads W (cs.take off) xs) (h2 : Reads W ((cs.drop off).take n) ys) (ho : off ≤ cs.length) : Reads W (cs.take (off + n)) (xs ++ ys) := by
  have hl1 : xs.length = off := by rw [h1.1, List.length_take]; omega
  refine ⟨by rw [List.length_append, h2.1, hl1]; simp only [List.length_take, List.length_drop]; omega, fun j x v hx hv => ?_⟩
  rw [List.take_add] at hv
  by_cases hj : j < off
  · rw [List.getElem?_append_left (by omega)] at hx
    rw [List.getElem?_append_left (by rw [List.length_take]; omega)] at hv
    exact h1.2 j x v hx hv
  · rw [List.getElem?_append_right (by omega)] at hx
    rw [List.getElem?_append_right (by rw [List.length_take]; omega)] at hv
    have hll : (List.take off cs).length = off := by rw [List.length_take]; omega
    rw [hll] at hv
    rw [hl1] at hx
    exact h2.2 _ x v hx hv
theorem Reads.all {cs : List Value} {n : Nat} {xs : List AV} (h : Reads W (cs.take n) xs) (hn : cs.length = n) : Reads W cs xs := by
  rwa [List.take_of_length_le (by omega)] at h
theorem arg_one {α : Type} {f : α → List AV} {Q : α → Prop} {v : Value} {d : DataW H} {ps : List MemPlace} (h : DataW.Trod enc P W 0 (fun _ => true) true t v d ps) (hw : (d.weights P t).all (· ≤ reachBytes) = true) (hd : Dec enc P W t f Q) : ∃ a, Reads W v.cells.toList (f a) ∧ Q a := by
  obtain ⟨fuel, hf⟩ := h
  exact hd _ _ _ hf hw
theorem Reads.val {v : Value} {xs : List AV} (h : Reads W v.cells.toList xs) (hv : ∃ cs, v = .agg cs) : Rel (heapKnow W) noLay (.agg xs) v := by
  obtain ⟨cs, rfl⟩ := hv
  exact .agg _ _ _ (by simpa [Value.cells] using h.1) fun j x u h1 h2 => (h.2 j x u h1 (by simpa [Value.cells] using h2)).1
theorem Reads.val1 {v : Value} {x : AV} (h : Reads W v.cells.toList [x]) (hv : ∀ cs, v ≠ .agg cs) : Rel (heapKnow W) noLay x v := by
  have hc : v.cells.toList = [v] := by cases v <;> first | rfl | exact absurd rfl (hv _)
  rw [hc] at h
  exact (h.2 0 x v rfl rfl).1
theorem okWide_agg {b0 : Nat} {v : Value} {i : TyI} {fs : List (Nat × Nat)} (hT : TOk P T) (hi : T t = some i) (hk : i.k = .struct fs) (h : Value.okWide P W .any b0 t v) : ∃ cs, v = .agg cs := by
  obtain ⟨info, d, e1, e2, e3, e4, e5, e6⟩ := tyOf_spec (hT _ _ hi)
  obtain ⟨A, rfl, _, _⟩ := tk_struct (P := P) (d := d) (e3 ▸ hk)
  unfold Value.okWide at h
  rw [e2] at h
  obtain ⟨cs, h1, _⟩ := h
  exact ⟨cs, h1⟩
theorem Grow.kept {H0 H' : Know} {W W' : World} (g : Grow H0 W H' W') (may : MemPlace → Prop) : W.keptBut W' may := by
  refine ⟨g.os, g.out, fun i hi => ?_⟩
  rw [g.keep i hi]
  split <;> simp_all

theorem post_law {f : Func} {s : ChangeSpec} {apart fresh handsOn : Bool} {W W' : World} {args : Array Value} {v : Value} {ds gs : List (DataW H)} {before pa pv : List MemPlace}
    (hW : DataW.Whole enc P f.params.toList s.vars apart W args.toList ds gs before)
    (hres : ∀ (b : Nat) (sp : Nat → Bool) (hd : Bool), DataW.TrodAll enc P W' b sp hd f.resultTypes.toList (v.resultList f.resultTypes.size) (s.fn H (ds ++ gs)).results [])
    (hargs : ∀ sp : Nat → Bool, (∀ p ∈ before, sp p.block = true) → DataW.TrodAll enc P W' 0 sp true f.params.toList args.toList (s.fn H (ds ++ gs)).args pa)
    (hvars : ∀ sp : Nat → Bool, (∀ p ∈ before, sp p.block = true) → DataW.TrodVars enc P W' sp s.vars (s.fn H (ds ++ gs)).vars pv)
    (hps : before = pa ++ pv) (hk : ∀ may : MemPlace → Prop, W.keptBut W' may) : s.post enc P f apart fresh handsOn false W args v W' := by
  have hold : ∀ p ∈ before, (fun b => decide (b < W.heap.size)) p.block = true := fun p hp => by simpa using hW.lt p hp
  exact ⟨ds, gs, before, [], pa, pv, hW, hres _ _ _, hargs _ hold, hvars _ hold, hk _, fun h => by cases h⟩

theorem trodAll_stays (hl : laidOutB P = true) {W' : World} {sp : Nat → Bool} : ∀ {ts : List TypeId} {vs : List Value} {ds : List (DataW H)} {ps : List MemPlace}, ts.all (fun t => P.readableRec t && decide (t < P.types.size)) = true →
    DataW.TrodAll enc P W 0 (fun _ => true) true ts vs ds ps → (∀ p ∈ ps, W.sameAt W' p) → (∀ p ∈ ps, sp p.block = true) → DataW.TrodAll enc P W' 0 sp true ts vs ds ps
  | [], vs, ds, ps, _, h, _, _ => by
    obtain ⟨rfl, rfl, rfl⟩ := trodAll_nil h
    rfl
  | t :: ts, vs, ds, ps, hr, h, h1, h2 => by
    obtain ⟨v, vs', d, ds', p, q, rfl, rfl, rfl, hd, hrest⟩ := trodAll_cons h
    simp only [List.all_cons, Bool.and_eq_true, decide_eq_true_eq] at hr
    exact ⟨p, q, WideElems.Trod_stays hl hr.1.1 hr.1.2 hd (fun x hx => h1 x (by simp [hx])) (fun x hx => h2 x (by simp [hx])), trodAll_stays hl hr.2 hrest (fun x hx => h1 x (by simp [hx])) (fun x hx => h2 x (by simp [hx])), rfl⟩

theorem Grow.same {H0 H' : Know} {W W' : World} (g : Grow H0 W H' W') {p : MemPlace} (hp : p.block < W.heap.size) : W.sameAt W' p := by
  cases p with
  | cell b off =>
    have := g.keep b hp
    show W'.cell? _ = W.cell? _
    unfold World.cell?
    simp only [this]
  | map b => exact g.keep b hp
theorem law_calls {f : FuncId} {fn : Func} {s : ChangeSpec} {args : Array Value} {ds gs : List (DataW H)} {before : List MemPlace} {tb : TypeId} {xs : List AV} (hl : laidOutB P = true) (hvs : s.vars = []) (hr : fn.params.toList.all (fun t => P.readableRec t && decide (t < P.types.size)) = true)
    (hres : fn.resultTypes = #[tb]) (hb : P.underlying tb = some .bool) (hs1 : (s.fn H (ds ++ gs)).results = [.lit (.bool true)]) (hs2 : (s.fn H (ds ++ gs)).args = ds) (hs3 : (s.fn H (ds ++ gs)).vars = [])
    (hW : DataW.Whole enc P fn.params.toList s.vars false W args.toList ds gs before) (hrel : RelAll (heapKnow W) noLay xs args) (hc : APure P f xs (fun r => r = .bool true)) (hg : GlobOk (heapKnow W)) {fresh handsOn : Bool} :
    Calls P f args W fun e W' => ∃ v, e = .returned v ∧ s.post enc P fn false fresh handsOn false W args v W' := by
  have hW' := hW
  obtain ⟨p, q, hA, hV, rfl, hfz, hnd⟩ := hW
  rw [hvs] at hV
  obtain ⟨rfl, rfl⟩ := trodVars_none hV
  have hlt : ∀ x ∈ p ++ [], x.block < W.heap.size := fun x hx => hW'.lt x hx
  refine (hc (heapKnow W) W args hrel (heapKnow_ok W hg)).mono fun e W' hx => ?_
  obtain ⟨v, r, H', rfl, rfl, h3, h4⟩ := hx
  have hv := h3.bool_inv
  subst hv
  refine ⟨_, rfl, post_law (pa := p) (pv := []) hW' (fun b sp hd => ?_) (fun sp hsp => ?_) (fun sp hsp => ?_) rfl (fun may => h4.kept may)⟩
  · rw [hs1, hres]
    exact trodAll_mk1 (shut_bool hb true)
  · rw [hs2]
    exact trodAll_stays hl hr hA (fun x hx => h4.same (hlt x (by simp [hx]))) (fun x hx => hsp x (by simp [hx]))
  · rw [hs3, hvs]; rfl

theorem RelAll.nil {K : Know} {ι : Lay} : RelAll K ι [] #[] := ⟨rfl, fun j x v h => by simp at h⟩
theorem RelAll.cons {K : Know} {ι : Lay} {x : AV} {xs : List AV} {v : Value} {vs : List Value} (h : Rel K ι x v) (hs : RelAll K ι xs ⟨vs⟩) : RelAll K ι (x :: xs) ⟨v :: vs⟩ := by
  refine ⟨by have := hs.1; simp at this ⊢; exact this, fun j y u h1 h2 => ?_⟩
  cases j with
  | zero => simp at h1 h2; subst h1; subst h2; exact h
  | succ j => exact hs.2 j y u (by simpa using h1) (by simpa using h2)
end
end Go.Proofs.Ytjmjmedjjbginaa.Sv

namespace Go.Proofs.Ytjmjmedjjbginaa.Sv
open Go
abbrev ty0 : TyI := ⟨.other, 1, 0, []⟩
abbrev ty1 : TyI := ⟨.other, 1, 8, []⟩
abbrev ty2 : TyI := ⟨.int .i64, 1, 8, [.int .i64 0]⟩
abbrev ty3 : TyI := ⟨.int .i64, 1, 8, [.int .i64 0]⟩
abbrev ty4 : TyI := ⟨.bool, 1, 1, [.bool false]⟩
abbrev ty5 : TyI := ⟨.int .u8, 1, 1, [.int .u8 0]⟩
abbrev ty6 : TyI := ⟨.int .u8, 1, 1, [.int .u8 0]⟩
abbrev ty7 : TyI := ⟨.struct [(0, 2), (1, 3), (2, 4), (3, 6)], 4, 24, [.int .i64 0, .int .i64 0, .bool false, .int .u8 0]⟩
abbrev ty8 : TyI := ⟨.struct [(0, 2), (1, 3), (2, 4), (3, 6)], 4, 24, [.int .i64 0, .int .i64 0, .bool false, .int .u8 0]⟩
abbrev ty9 : TyI := ⟨.string, 1, 16, [.str ⟨#[]⟩]⟩
abbrev ty10 : TyI := ⟨.string, 1, 16, [.str ⟨#[]⟩]⟩
abbrev ty11 : TyI := ⟨.string, 1, 16, [.str ⟨#[]⟩]⟩
abbrev ty12 : TyI := ⟨.int .u64, 1, 8, [.int .u64 0]⟩
abbrev ty13 : TyI := ⟨.struct [(0, 9), (1, 12)], 2, 24, [.str ⟨#[]⟩, .int .u64 0]⟩
abbrev ty14 : TyI := ⟨.struct [(0, 9), (1, 12)], 2, 24, [.str ⟨#[]⟩, .int .u64 0]⟩
abbrev ty15 : TyI := ⟨.ptr 136, 1, 8, [.nilp]⟩
abbrev ty16 : TyI := ⟨.ptr 139, 1, 8, [.nilp]⟩
abbrev ty17 : TyI := ⟨.ptr 148, 1, 8, [.nilp]⟩
abbrev ty18 : TyI := ⟨.struct [(0, 17)], 1, 8, [.nilp]⟩
abbrev ty19 : TyI := ⟨.struct [(0, 17)], 1, 8, [.nilp]⟩
abbrev ty20 : TyI := ⟨.other, 1, 16, []⟩
abbrev ty21 : TyI := ⟨.int .i32, 1, 4, [.int .i32 0]⟩
abbrev ty22 : TyI := ⟨.slice 54, 1, 24, [.nil]⟩
abbrev ty23 : TyI := ⟨.struct [(0, 3), (1, 22)], 2, 32, [.int .i64 0, .nil]⟩
abbrev ty24 : TyI := ⟨.struct [(0, 3), (1, 22)], 2, 32, [.int .i64 0, .nil]⟩
abbrev ty25 : TyI := ⟨.int .u32, 1, 4, [.int .u32 0]⟩
abbrev ty26 : TyI := ⟨.struct [(0, 3), (1, 3), (2, 3), (3, 3), (4, 3), (5, 3), (6, 3), (7, 25)], 8, 64, [.int .i64 0, .int .i64 0, .int .i64 0, .int .i64 0, .int .i64 0, .int .i64 0, .int .i64 0, .int .u32 0]⟩
abbrev ty27 : TyI := ⟨.struct [(0, 3), (1, 3), (2, 3), (3, 3), (4, 3), (5, 3), (6, 3), (7, 25)], 8, 64, [.int .i64 0, .int .i64 0, .int .i64 0, .int .i64 0, .int .i64 0, .int .i64 0, .int .i64 0, .int .u32 0]⟩
abbrev ty28 : TyI := ⟨.other, 1, 8, []⟩
abbrev ty29 : TyI := ⟨.other, 1, 8, []⟩
abbrev ty30 : TyI := ⟨.other, 1, 8, []⟩
abbrev ty31 : TyI := ⟨.slice 57, 1, 24, [.nil]⟩
abbrev ty32 : TyI := ⟨.struct [(0, 31)], 1, 24, [.nil]⟩
abbrev ty33 : TyI := ⟨.struct [(0, 31)], 1, 24, [.nil]⟩
abbrev ty34 : TyI := ⟨.other, 1, 0, []⟩
abbrev ty35 : TyI := ⟨.other, 1, 8, []⟩
abbrev ty36 : TyI := ⟨.other, 1, 8, []⟩
abbrev ty37 : TyI := ⟨.other, 1, 8, []⟩
abbrev ty38 : TyI := ⟨.other, 1, 8, []⟩
abbrev ty39 : TyI := ⟨.other, 1, 8, []⟩
abbrev ty40 : TyI := ⟨.struct [(0, 31), (1, 31)], 2, 48, [.nil, .nil]⟩
abbrev ty41 : TyI := ⟨.struct [(0, 31), (1, 31)], 2, 48, [.nil, .nil]⟩
abbrev ty42 : TyI := ⟨.other, 1, 8, []⟩
abbrev ty43 : TyI := ⟨.slice 24, 1, 24, [.nil]⟩
abbrev ty44 : TyI := ⟨.struct [(0, 3), (1, 43)], 2, 32, [.int .i64 0, .nil]⟩
abbrev ty45 : TyI := ⟨.struct [(0, 3), (1, 43)], 2, 32, [.int .i64 0, .nil]⟩
abbrev ty46 : TyI := ⟨.other, 1, 8, []⟩
abbrev ty47 : TyI := ⟨.other, 1, 8, []⟩
abbrev ty48 : TyI := ⟨.struct [(0, 3), (1, 9), (2, 3)], 3, 32, [.int .i64 0, .str ⟨#[]⟩, .int .i64 0]⟩
abbrev ty49 : TyI := ⟨.struct [(0, 3), (1, 9), (2, 3)], 3, 32, [.int .i64 0, .str ⟨#[]⟩, .int .i64 0]⟩
abbrev ty50 : TyI := ⟨.other, 1, 8, []⟩
abbrev ty51 : TyI := ⟨.other, 1, 8, []⟩
abbrev ty52 : TyI := ⟨.slice 27, 1, 24, [.nil]⟩
abbrev ty53 : TyI := ⟨.struct [(0, 52), (1, 3), (2, 3), (3, 3), (4, 3)], 5, 56, [.nil, .int .i64 0, .int .i64 0, .int .i64 0, .int .i64 0]⟩
abbrev ty54 : TyI := ⟨.struct [(0, 52), (1, 3), (2, 3), (3, 3), (4, 3)], 5, 56, [.nil, .int .i64 0, .int .i64 0, .int .i64 0, .int .i64 0]⟩
abbrev ty55 : TyI := ⟨.other, 1, 8, []⟩
abbrev ty56 : TyI := ⟨.other, 1, 8, []⟩
abbrev ty57 : TyI := ⟨.slice 4, 1, 24, [.nil]⟩
abbrev ty58 : TyI := ⟨.other, 1, 8, []⟩
abbrev ty59 : TyI := ⟨.ptr 65, 1, 8, [.nilp]⟩
abbrev ty60 : TyI := ⟨.other, 1, 8, []⟩
abbrev ty61 : TyI := ⟨.slice 63, 1, 24, [.nil]⟩
abbrev ty62 : TyI := ⟨.slice 100, 1, 24, [.nil]⟩
abbrev ty63 : TyI := ⟨.slice 3, 1, 24, [.nil]⟩
abbrev ty64 : TyI := ⟨.struct [(0, 24), (2, 61), (3, 61), (4, 62), (5, 31), (6, 63), (7, 57)], 8, 176, [.int .i64 0, .nil, .nil, .nil, .nil, .nil, .nil, .nil]⟩
abbrev ty65 : TyI := ⟨.struct [(0, 24), (2, 61), (3, 61), (4, 62), (5, 31), (6, 63), (7, 57)], 8, 176, [.int .i64 0, .nil, .nil, .nil, .nil, .nil, .nil, .nil]⟩
abbrev ty66 : TyI := ⟨.other, 1, 8, []⟩
abbrev ty67 : TyI := ⟨.other, 1, 8, []⟩
abbrev ty68 : TyI := ⟨.other, 1, 8, []⟩
abbrev ty69 : TyI := ⟨.other, 1, 8, []⟩
abbrev ty70 : TyI := ⟨.other, 1, 0, []⟩
abbrev ty71 : TyI := ⟨.other, 1, 8, []⟩
abbrev ty72 : TyI := ⟨.other, 1, 8, []⟩
abbrev ty73 : TyI := ⟨.other, 1, 8, []⟩
abbrev ty74 : TyI := ⟨.other, 1, 8, []⟩
abbrev ty75 : TyI := ⟨.other, 1, 8, []⟩
abbrev ty76 : TyI := ⟨.ptr 80, 1, 8, [.nilp]⟩
abbrev ty77 : TyI := ⟨.slice 25, 1, 24, [.nil]⟩
abbrev ty78 : TyI := ⟨.slice 5, 1, 24, [.nil]⟩
abbrev ty79 : TyI := ⟨.struct [(0, 45), (2, 9), (3, 3), (4, 77), (5, 78), (6, 3), (7, 3), (8, 3)], 9, 128, [.int .i64 0, .nil, .str ⟨#[]⟩, .int .i64 0, .nil, .nil, .int .i64 0, .int .i64 0, .int .i64 0]⟩
abbrev ty80 : TyI := ⟨.struct [(0, 45), (2, 9), (3, 3), (4, 77), (5, 78), (6, 3), (7, 3), (8, 3)], 9, 128, [.int .i64 0, .nil, .str ⟨#[]⟩, .int .i64 0, .nil, .nil, .int .i64 0, .int .i64 0, .int .i64 0]⟩
abbrev ty81 : TyI := ⟨.ptr 84, 1, 8, [.nilp]⟩
abbrev ty82 : TyI := ⟨.slice 77, 1, 24, [.nil]⟩
abbrev ty83 : TyI := ⟨.struct [(0, 43), (1, 77), (2, 82), (3, 9), (4, 3), (5, 78)], 6, 120, [.nil, .nil, .nil, .str ⟨#[]⟩, .int .i64 0, .nil]⟩
abbrev ty84 : TyI := ⟨.struct [(0, 43), (1, 77), (2, 82), (3, 9), (4, 3), (5, 78)], 6, 120, [.nil, .nil, .nil, .str ⟨#[]⟩, .int .i64 0, .nil]⟩
abbrev ty85 : TyI := ⟨.struct [(0, 3), (1, 3), (2, 3), (3, 77)], 4, 48, [.int .i64 0, .int .i64 0, .int .i64 0, .nil]⟩
abbrev ty86 : TyI := ⟨.struct [(0, 3), (1, 3), (2, 3), (3, 77)], 4, 48, [.int .i64 0, .int .i64 0, .int .i64 0, .nil]⟩
abbrev ty87 : TyI := ⟨.other, 1, 8, []⟩
abbrev ty88 : TyI := ⟨.slice 86, 1, 24, [.nil]⟩
abbrev ty89 : TyI := ⟨.ptr 54, 1, 8, [.nilp]⟩
abbrev ty90 : TyI := ⟨.ptr 27, 1, 8, [.nilp]⟩
abbrev ty91 : TyI := ⟨.other, 1, 8, []⟩
abbrev ty92 : TyI := ⟨.other, 1, 8, []⟩
abbrev ty93 : TyI := ⟨.other, 1, 8, []⟩
abbrev ty94 : TyI := ⟨.other, 1, 8, []⟩
abbrev ty95 : TyI := ⟨.struct [(0, 3), (1, 4), (2, 4)], 3, 16, [.int .i64 0, .bool false, .bool false]⟩
abbrev ty96 : TyI := ⟨.struct [(0, 3), (1, 4), (2, 4)], 3, 16, [.int .i64 0, .bool false, .bool false]⟩
abbrev ty97 : TyI := ⟨.ptr 96, 1, 8, [.nilp]⟩
abbrev ty98 : TyI := ⟨.other, 1, 8, []⟩
abbrev ty99 : TyI := ⟨.other, 1, 8, []⟩
abbrev ty100 : TyI := ⟨.slice 104, 1, 24, [.nil]⟩
abbrev ty101 : TyI := ⟨.other, 1, 8, []⟩
abbrev ty102 : TyI := ⟨.slice 96, 1, 24, [.nil]⟩
abbrev ty103 : TyI := ⟨.struct [(0, 3), (1, 102)], 2, 32, [.int .i64 0, .nil]⟩
abbrev ty104 : TyI := ⟨.struct [(0, 3), (1, 102)], 2, 32, [.int .i64 0, .nil]⟩
abbrev ty105 : TyI := ⟨.other, 1, 8, []⟩
abbrev ty106 : TyI := ⟨.other, 1, 8, []⟩
abbrev ty107 : TyI := ⟨.ptr 111, 1, 8, [.nilp]⟩
abbrev ty108 : TyI := ⟨.other, 1, 8, []⟩
abbrev ty109 : TyI := ⟨.slice 113, 1, 24, [.nil]⟩
abbrev ty110 : TyI := ⟨.struct [(0, 61), (1, 61), (2, 109), (3, 109), (4, 109), (5, 109), (6, 63), (7, 57)], 8, 192, [.nil, .nil, .nil, .nil, .nil, .nil, .nil, .nil]⟩
abbrev ty111 : TyI := ⟨.struct [(0, 61), (1, 61), (2, 109), (3, 109), (4, 109), (5, 109), (6, 63), (7, 57)], 8, 192, [.nil, .nil, .nil, .nil, .nil, .nil, .nil, .nil]⟩
abbrev ty112 : TyI := ⟨.slice 120, 1, 24, [.nil]⟩
abbrev ty113 : TyI := ⟨.slice 120, 1, 24, [.nil]⟩
abbrev ty114 : TyI := ⟨.other, 1, 8, []⟩
abbrev ty115 : TyI := ⟨.other, 1, 8, []⟩
abbrev ty116 : TyI := ⟨.other, 1, 8, []⟩
abbrev ty117 : TyI := ⟨.int .i64, 1, 8, [.int .i64 0]⟩
abbrev ty118 : TyI := ⟨.other, 1, 0, []⟩
abbrev ty119 : TyI := ⟨.other, 1, 8, []⟩
abbrev ty120 : TyI := ⟨.int .u64, 1, 8, [.int .u64 0]⟩
abbrev ty121 : TyI := ⟨.other, 1, 8, []⟩
abbrev ty122 : TyI := ⟨.other, 1, 8, []⟩
abbrev ty123 : TyI := ⟨.other, 1, 8, []⟩
abbrev ty124 : TyI := ⟨.ptr 104, 1, 8, [.nilp]⟩
abbrev ty125 : TyI := ⟨.other, 1, 0, []⟩
abbrev ty126 : TyI := ⟨.other, 1, 8, []⟩
abbrev ty127 : TyI := ⟨.other, 1, 8, []⟩
abbrev ty128 : TyI := ⟨.other, 1, 8, []⟩
abbrev ty129 : TyI := ⟨.other, 1, 8, []⟩
abbrev ty130 : TyI := ⟨.other, 1, 8, []⟩
abbrev ty131 : TyI := ⟨.other, 1, 8, []⟩
abbrev ty132 : TyI := ⟨.other, 1, 8, []⟩
abbrev ty133 : TyI := ⟨.other, 1, 8, []⟩
abbrev ty134 : TyI := ⟨.other, 1, 8, []⟩
abbrev ty135 : TyI := ⟨.struct [(0, 17), (1, 17), (2, 17), (3, 9)], 4, 40, [.nilp, .nilp, .nilp, .str ⟨#[]⟩]⟩
abbrev ty136 : TyI := ⟨.struct [(0, 17), (1, 17), (2, 17), (3, 9)], 4, 40, [.nilp, .nilp, .nilp, .str ⟨#[]⟩]⟩
abbrev ty137 : TyI := ⟨.array 0 16, 0, 0, []⟩
abbrev ty138 : TyI := ⟨.other, 0, 0, []⟩
abbrev ty139 : TyI := ⟨.other, 0, 0, []⟩
abbrev ty140 : TyI := ⟨.other, 1, 8, []⟩
abbrev ty141 : TyI := ⟨.int .u8, 1, 1, [.int .u8 0]⟩
abbrev ty142 : TyI := ⟨.int .u8, 1, 1, [.int .u8 0]⟩
abbrev ty143 : TyI := ⟨.other, 1, 8, []⟩
abbrev ty144 : TyI := ⟨.ptr 5, 1, 8, [.nilp]⟩
abbrev ty145 : TyI := ⟨.int .i32, 1, 4, [.int .i32 0]⟩
abbrev ty146 : TyI := ⟨.int .i32, 1, 4, [.int .i32 0]⟩
abbrev ty147 : TyI := ⟨.struct [(0, 12), (1, 12), (2, 25), (3, 141), (4, 5), (5, 5), (6, 142), (7, 143), (8, 144), (9, 145), (10, 146)], 11, 48, []⟩
abbrev ty148 : TyI := ⟨.struct [(0, 12), (1, 12), (2, 25), (3, 141), (4, 5), (5, 5), (6, 142), (7, 143), (8, 144), (9, 145), (10, 146)], 11, 48, []⟩
abbrev ty149 : TyI := ⟨.other, 1, 8, [.nilp]⟩
def TI (t : Nat) : Option TyI := bif Nat.blt t 150 then (bif Nat.blt t 75 then (bif Nat.blt t 37 then (bif Nat.blt t 18 then (bif Nat.blt t 9 then (bif Nat.blt t 4 then (bif Nat.blt t 2 then (bif Nat.blt t 1 then some ty0 else some ty1) else (bif Nat.blt t 3 then some ty2 else some ty3)) else (bif Nat.blt t 6 then (bif Nat.blt t 5 then some ty4 else some ty5) else (bif Nat.blt t 7 then some ty6 else (bif Nat.blt t 8 then some ty7 else some ty8)))) else (bif Nat.blt t 13 then (bif Nat.blt t 11 then (bif Nat.blt t 10 then some ty9 else some ty10) else (bif Nat.blt t 12 then some ty11 else some ty12)) else (bif Nat.blt t 15 then (bif Nat.blt t 14 then some ty13 else some ty14) else (bif Nat.blt t 16 then some ty15 else (bif Nat.blt t 17 then some ty16 else some ty17))))) else (bif Nat.blt t 27 then (bif Nat.blt t 22 then (bif Nat.blt t 20 then (bif Nat.blt t 19 then some ty18 else some ty19) else (bif Nat.blt t 21 then some ty20 else some ty21)) else (bif Nat.blt t 24 then (bif Nat.blt t 23 then some ty22 else some ty23) else (bif Nat.blt t 25 then some ty24 else (bif Nat.blt t 26 then some ty25 else some ty26)))) else (bif Nat.blt t 32 then (bif Nat.blt t 29 then (bif Nat.blt t 28 then some ty27 else some ty28) else (bif Nat.blt t 30 then some ty29 else (bif Nat.blt t 31 then some ty30 else some ty31))) else (bif Nat.blt t 34 then (bif Nat.blt t 33 then some ty32 else some ty33) else (bif Nat.blt t 35 then some ty34 else (bif Nat.blt t 36 then some ty35 else some ty36)))))) else (bif Nat.blt t 56 then (bif Nat.blt t 46 then (bif Nat.blt t 41 then (bif Nat.blt t 39 then (bif Nat.blt t 38 then some ty37 else some ty38) else (bif Nat.blt t 40 then some ty39 else some ty40)) else (bif Nat.blt t 43 then (bif Nat.blt t 42 then some ty41 else some ty42) else (bif Nat.blt t 44 then some ty43 else (bif Nat.blt t 45 then some ty44 else some ty45)))) else (bif Nat.blt t 51 then (bif Nat.blt t 48 then (bif Nat.blt t 47 then some ty46 else some ty47) else (bif Nat.blt t 49 then some ty48 else (bif Nat.blt t 50 then some ty49 else some ty50))) else (bif Nat.blt t 53 then (bif Nat.blt t 52 then some ty51 else some ty52) else (bif Nat.blt t 54 then some ty53 else (bif Nat.blt t 55 then some ty54 else some ty55))))) else (bif Nat.blt t 65 then (bif Nat.blt t 60 then (bif Nat.blt t 58 then (bif Nat.blt t 57 then some ty56 else some ty57) else (bif Nat.blt t 59 then some ty58 else some ty59)) else (bif Nat.blt t 62 then (bif Nat.blt t 61 then some ty60 else some ty61) else (bif Nat.blt t 63 then some ty62 else (bif Nat.blt t 64 then some ty63 else some ty64)))) else (bif Nat.blt t 70 then (bif Nat.blt t 67 then (bif Nat.blt t 66 then some ty65 else some ty66) else (bif Nat.blt t 68 then some ty67 else (bif Nat.blt t 69 then some ty68 else some ty69))) else (bif Nat.blt t 72 then (bif Nat.blt t 71 then some ty70 else some ty71) else (bif Nat.blt t 73 then some ty72 else (bif Nat.blt t 74 then some ty73 else some ty74))))))) else (bif Nat.blt t 112 then (bif Nat.blt t 93 then (bif Nat.blt t 84 then (bif Nat.blt t 79 then (bif Nat.blt t 77 then (bif Nat.blt t 76 then some ty75 else some ty76) else (bif Nat.blt t 78 then some ty77 else some ty78)) else (bif Nat.blt t 81 then (bif Nat.blt t 80 then some ty79 else some ty80) else (bif Nat.blt t 82 then some ty81 else (bif Nat.blt t 83 then some ty82 else some ty83)))) else (bif Nat.blt t 88 then (bif Nat.blt t 86 then (bif Nat.blt t 85 then some ty84 else some ty85) else (bif Nat.blt t 87 then some ty86 else some ty87)) else (bif Nat.blt t 90 then (bif Nat.blt t 89 then some ty88 else some ty89) else (bif Nat.blt t 91 then some ty90 else (bif Nat.blt t 92 then some ty91 else some ty92))))) else (bif Nat.blt t 102 then (bif Nat.blt t 97 then (bif Nat.blt t 95 then (bif Nat.blt t 94 then some ty93 else some ty94) else (bif Nat.blt t 96 then some ty95 else some ty96)) else (bif Nat.blt t 99 then (bif Nat.blt t 98 then some ty97 else some ty98) else (bif Nat.blt t 100 then some ty99 else (bif Nat.blt t 101 then some ty100 else some ty101)))) else (bif Nat.blt t 107 then (bif Nat.blt t 104 then (bif Nat.blt t 103 then some ty102 else some ty103) else (bif Nat.blt t 105 then some ty104 else (bif Nat.blt t 106 then some ty105 else some ty106))) else (bif Nat.blt t 109 then (bif Nat.blt t 108 then some ty107 else some ty108) else (bif Nat.blt t 110 then some ty109 else (bif Nat.blt t 111 then some ty110 else some ty111)))))) else (bif Nat.blt t 131 then (bif Nat.blt t 121 then (bif Nat.blt t 116 then (bif Nat.blt t 114 then (bif Nat.blt t 113 then some ty112 else some ty113) else (bif Nat.blt t 115 then some ty114 else some ty115)) else (bif Nat.blt t 118 then (bif Nat.blt t 117 then some ty116 else some ty117) else (bif Nat.blt t 119 then some ty118 else (bif Nat.blt t 120 then some ty119 else some ty120)))) else (bif Nat.blt t 126 then (bif Nat.blt t 123 then (bif Nat.blt t 122 then some ty121 else some ty122) else (bif Nat.blt t 124 then some ty123 else (bif Nat.blt t 125 then some ty124 else some ty125))) else (bif Nat.blt t 128 then (bif Nat.blt t 127 then some ty126 else some ty127) else (bif Nat.blt t 129 then some ty128 else (bif Nat.blt t 130 then some ty129 else some ty130))))) else (bif Nat.blt t 140 then (bif Nat.blt t 135 then (bif Nat.blt t 133 then (bif Nat.blt t 132 then some ty131 else some ty132) else (bif Nat.blt t 134 then some ty133 else some ty134)) else (bif Nat.blt t 137 then (bif Nat.blt t 136 then some ty135 else some ty136) else (bif Nat.blt t 138 then some ty137 else (bif Nat.blt t 139 then some ty138 else some ty139)))) else (bif Nat.blt t 145 then (bif Nat.blt t 142 then (bif Nat.blt t 141 then some ty140 else some ty141) else (bif Nat.blt t 143 then some ty142 else (bif Nat.blt t 144 then some ty143 else some ty144))) else (bif Nat.blt t 147 then (bif Nat.blt t 146 then some ty145 else some ty146) else (bif Nat.blt t 148 then some ty147 else (bif Nat.blt t 149 then some ty148 else some ty149)))))))) else none
theorem ti_all : (List.range 150).map TI = (List.range 150).map (tyOf Go.Proofs.Try.prog) := by kernel_rfl
theorem tok : TOk Go.Proofs.Try.prog TI := by
  intro t i h
  by_cases c : t < 150
  · have h1 : ((List.range 150).map TI)[t]? = ((List.range 150).map (tyOf Go.Proofs.Try.prog))[t]? := by rw [ti_all]
    rw [List.getElem?_map, List.getElem?_map, List.getElem?_range c] at h1
    simp only [Option.map_some, Option.some.injEq] at h1
    rw [← h1, h]
  · have h2 : Nat.blt t 150 = false := by
      rw [Bool.eq_false_iff]
      intro hc
      exact c (Nat.blt_eq.mp hc)
    unfold TI at h
    rw [h2] at h
    cases h
theorem mix : Go.Proofs.Try.prog.follows .mixedOrders = true := by kernel_rfl
end Go.Proofs.Ytjmjmedjjbginaa.Sv

namespace Go.Proofs.Ytjmjmedjjbginaa.Sv
open Go

structure Tac where
  op : Int
  d : Int
  a : Int
  b : Int
  k : Int
  base : Int
  size : Int
  n : Int
  deriving DecidableEq, Repr
structure Block where
  ins : List Tac
  fin : Int
  v : Int
  to : Int
  els : Int
  deriving DecidableEq, Repr
structure BFunc where
  regs : Int
  blocks : List Block
  deriving DecidableEq, Repr
structure Blocks where
  words : Int
  funcs : List BFunc
  deriving DecidableEq, Repr
structure Cert where
  same : List (List Bool)
  deriving DecidableEq, Repr

def Tac.cells (t : Tac) : List AV := [.int .i64 t.op, .int .i64 t.d, .int .i64 t.a, .int .i64 t.b, .int .i64 t.k, .int .i64 t.base, .int .i64 t.size, .int .u32 t.n]
def insAV (l : List Tac) : AV := .lst false (l.map Tac.cells)
def Block.cells (b : Block) : List AV := [insAV b.ins, .int .i64 b.fin, .int .i64 b.v, .int .i64 b.to, .int .i64 b.els]
def blocksAV (l : List Block) : AV := .lst false (l.map Block.cells)
def BFunc.cells (f : BFunc) : List AV := [.int .i64 f.regs, blocksAV f.blocks]
def funcsAV (l : List BFunc) : AV := .lst false (l.map BFunc.cells)
def Blocks.cells (b : Blocks) : List AV := [.int .i64 b.words, funcsAV b.funcs]
def boolsAV (l : List Bool) : AV := .lst false (l.map fun b => [.bool b])
def intsAV (l : List Int) : AV := .lst false (l.map fun b => [.int .i64 b])
def rowsAV (l : List (List Bool)) : AV := .lst false (l.map fun r => [boolsAV r])
def pathsAV (l : List (List Int)) : AV := .lst false (l.map fun r => [intsAV r])
def Cert.cells (c : Cert) : List AV := [rowsAV c.same]

theorem idx_map {α : Type} {l : List α} {f : α → List AV} {k : Nat} {x : α} (h : l[k]? = some x) : (l.map f)[((k : Nat) : Int).toNat]? = some (f x) := by
  rw [Int.toNat_natCast, List.getElem?_map, h]; rfl

theorem get_of_lt {α : Type} {l : List α} {k : Nat} (h : k < l.length) : ∃ x, l[k]? = some x := ⟨l[k], List.getElem?_eq_getElem h⟩

theorem take_succ_eq {α : Type} {l : List α} {k : Nat} {x : α} (h : l[k]? = some x) : l.take (k + 1) = l.take k ++ [x] := by
  rw [List.take_add_one, h]; rfl
def fitsIns (l : List Tac) : Prop := l.length ≤ maxLen
def Block.fits (x : Block) : Prop := x.ins.length ≤ maxLen
def fitsBlocks (l : List Block) : Prop := l.length ≤ maxLen ∧ ∀ x ∈ l, x.fits
def BFunc.fits (f : BFunc) : Prop := fitsBlocks f.blocks
def fitsFuncs (l : List BFunc) : Prop := l.length ≤ maxLen ∧ ∀ f ∈ l, f.fits
def Blocks.fits (b : Blocks) : Prop := fitsFuncs b.funcs
theorem rel_list {α : Type} {l : List α} {f : α → List AV} {H : Know} {ι : Lay} {ex : Bool} {v : Value} (h : Rel H ι (.lst ex (l.map f)) v) :
    l.length ≤ maxLen ∧ ∀ x ∈ l, ∀ (j : Nat) (y : AV), (f x)[j]? = some y → ∃ u, Rel H noLay y u := by
  refine ⟨by have := lst_max h; simpa using this, fun x hx j y hy => ?_⟩
  obtain ⟨i, hi⟩ := List.mem_iff_getElem?.1 hx
  rcases h.lst_inv with ⟨h0, _⟩ | ⟨_, b, off, cap, sz, c, vals, _, _, _, _, hr, _⟩
  · rw [List.map_eq_nil_iff] at h0; subst h0; simp at hi
  · exact ⟨_, hr i (f x) j y (by rw [List.getElem?_map, hi]; rfl) hy⟩
theorem rel_ins {l : List Tac} {H : Know} {ι : Lay} {v : Value} (h : Rel H ι (insAV l) v) : fitsIns l := (rel_list h).1
theorem rel_blocks {l : List Block} {H : Know} {ι : Lay} {v : Value} (h : Rel H ι (blocksAV l) v) : fitsBlocks l := by
  obtain ⟨h1, h2⟩ := rel_list h
  exact ⟨h1, fun x hx => by obtain ⟨u, hu⟩ := h2 x hx 0 _ rfl; exact rel_ins hu⟩
theorem rel_part {cs : List AV} {H : Know} {ι : Lay} {v : Value} (h : Rel H ι (.agg cs) v) {j : Nat} {x : AV} (hj : cs[j]? = some x) : ∃ u, Rel H ι x u := by
  obtain ⟨us, _, hl, hr⟩ := h.agg_inv
  have hlt : j < us.size := by rw [← hl]; exact (List.getElem?_eq_some_iff.1 hj).1
  obtain ⟨u, hu⟩ := getElem?_some_of_lt hlt
  exact ⟨u, hr j x u hj hu⟩
theorem rel_bfunc {f : BFunc} {H : Know} {ι : Lay} {v : Value} (h : Rel H ι (.agg f.cells) v) : f.fits := by
  obtain ⟨u, hu⟩ := rel_part h (j := 1) rfl
  exact rel_blocks hu
theorem rel_funcs {l : List BFunc} {H : Know} {ι : Lay} {v : Value} (h : Rel H ι (funcsAV l) v) : fitsFuncs l := by
  obtain ⟨h1, h2⟩ := rel_list h
  exact ⟨h1, fun x hx => by obtain ⟨u, hu⟩ := h2 x hx 1 _ rfl; exact rel_blocks hu⟩
theorem rel_prog {b : Blocks} {H : Know} {ι : Lay} {v : Value} (h : Rel H ι (.agg b.cells) v) : b.fits := by
  obtain ⟨u, hu⟩ := rel_part h (j := 1) rfl
  exact rel_funcs hu
theorem AGo.slot {P : Program} {s : AState} {Q : Exit → AState → Prop} {c : Code} (t : Nat) {x : AV} {φ : Prop} (ht : s.env t = some x) (hf : ∀ H ι v, Rel H ι x v → φ) (h : φ → AGo P c s Q) : AGo P c s Q :=
  AGo.fact (fun H ι a w hs => by obtain ⟨v, _, hv⟩ := hs.env t x ht; exact hf H ι v hv) h

theorem lt_of_idx {α : Type} {β : Type} {l : List α} {f : α → β} {k : Nat} (h : decide ((k : Int) < (((l.map f).length : Nat) : Int)) = true) : k < l.length := by simpa using h
theorem ge_of_idx {α : Type} {β : Type} {l : List α} {f : α → β} {k : Nat} (h : decide ((k : Int) < (((l.map f).length : Nat) : Int)) = false) : l.length ≤ k := by simpa using h

theorem Tac.eqCells (x y : Tac) : Sv.eqCells x.cells y.cells = some (decide (x = y)) := by
  have h : Sv.eqCells x.cells y.cells = some (x.op == y.op && (x.d == y.d && (x.a == y.a && (x.b == y.b && (x.k == y.k && (x.base == y.base && (x.size == y.size && (x.n == y.n && true)))))))) := rfl
  rw [h]
  congr 1
  obtain ⟨a1, a2, a3, a4, a5, a6, a7, a8⟩ := x
  obtain ⟨b1, b2, b3, b4, b5, b6, b7, b8⟩ := y
  rw [Bool.eq_iff_iff]
  simp [Tac.mk.injEq]

end Go.Proofs.Ytjmjmedjjbginaa.Sv

namespace Go.Proofs.Ytjmjmedjjbginaa.Sv
open Go

def setsOp (op : Int) : Bool := op == 1 || (op == 2 || (op == 3 || (op == 4 || (op == 6 || op == 8))))
def Tac.sets (t : Tac) : Int := bif setsOp t.op then t.d else -1
def use1 (op : Int) : Bool := op == 2 || (op == 5 || (op == 6 || op == 9))
def use2 (op : Int) : Bool := op == 3 || op == 7
def Tac.uses (t : Tac) : List Int := bif use1 t.op then [t.a] else bif use2 t.op then [t.a, t.b] else []
theorem uses_len (t : Tac) : t.uses.length ≤ 2 := by
  unfold Tac.uses
  cases use1 t.op <;> cases use2 t.op <;> simp
def within (i n : Int) : Bool := decide (0 ≤ i) && decide (i < n)
theorem use12 (op : Int) : (use1 op && use2 op) = false := by
  rw [Bool.eq_false_iff]; intro h
  simp only [use1, use2, Bool.and_eq_true, Bool.or_eq_true, beq_iff_eq] at h
  omega
def baseOp (op : Int) : Bool := op == 4 || op == 5
def arrOp (op : Int) : Bool := op == 6 || op == 7
def Tac.want (t : Tac) : Tac where
  op := t.op
  d := bif setsOp t.op then t.d else 0
  a := bif use1 t.op || use2 t.op then t.a else 0
  b := bif use2 t.op then t.b else 0
  k := bif t.op == 3 then t.k else 0
  base := bif baseOp t.op || (arrOp t.op || t.op == 10) then t.base else 0
  size := bif arrOp t.op then t.size else 0
  n := bif t.op == 1 then t.n else 0
def Tac.same (x y : Tac) : Bool := x.op == y.op && (x.d == y.d && (x.a == y.a && (x.b == y.b && (x.k == y.k && (x.base == y.base && (x.size == y.size && (x.n == y.n && true)))))))
def Tac.rest (t : Tac) (f words : Int) : Bool :=
  bif t.op == 3 then decide (4 ≤ t.k) && decide (t.k ≤ 15)
  else bif baseOp t.op then within t.base words
  else bif arrOp t.op then decide (1 ≤ t.size) && (decide (t.size ≤ 4096) && (decide (0 ≤ t.base) && decide (t.base ≤ words - t.size)))
  else bif t.op == 10 then within t.base f
  else true
def Tac.fits (t : Tac) (f regs words : Int) : Bool :=
  decide (1 ≤ t.op) && (decide (t.op ≤ 10) && ((!setsOp t.op || within t.d regs) && (t.uses.all (fun r => within r regs) && (t.rest f words && t.same t.want))))
theorem sets_pos {t : Tac} (h : decide (t.sets ≥ 0) = true) : setsOp t.op = true := by
  unfold Tac.sets at h
  cases e : setsOp t.op with
  | true => rfl
  | false => rw [e] at h; simp at h
theorem fits_op {t : Tac} {f regs words : Int} (h : ¬ (1 ≤ t.op ∧ t.op ≤ 10)) : t.fits f regs words = false := by
  rw [Bool.eq_false_iff]
  intro h2
  simp only [Tac.fits, Bool.and_eq_true, decide_eq_true_eq] at h2
  exact h ⟨h2.1, h2.2.1⟩
theorem fits_d {t : Tac} {f regs words : Int} (h : setsOp t.op = true) (h2 : within t.d regs = false) : t.fits f regs words = false := by
  simp [Tac.fits, h, h2]
theorem fits_use {t : Tac} {f regs words : Int} (h : t.uses.all (fun r => within r regs) = false) : t.fits f regs words = false := by
  simp only [Tac.fits, h, Bool.false_and, Bool.and_false]
theorem fits_rest {t : Tac} {f regs words : Int} (h : t.rest f words = false) : t.fits f regs words = false := by
  simp only [Tac.fits, h, Bool.false_and, Bool.and_false]
theorem fits_same {t : Tac} {f regs words : Int} (h1 : decide (t.op < 1) = false) (h2 : decide (t.op > 10) = false) (hd : (!setsOp t.op || within t.d regs) = true) (hu : t.uses.all (fun r => within r regs) = true) (hr : t.rest f words = true) : t.fits f regs words = t.same t.want := by
  have h1' : decide (1 ≤ t.op) = true := by simp at h1 ⊢; omega
  have h2' : decide (t.op ≤ 10) = true := by simp at h2 ⊢; omega
  simp only [Tac.fits, h1', h2', hd, hu, hr, Bool.true_and]
def Block.ends (b : Block) (blocks regs : Int) : Bool :=
  bif b.fin == 1 then within b.to blocks && (b.v == 0 && b.els == 0)
  else bif b.fin == 2 then within b.to blocks && (within b.els blocks && within b.v regs)
  else b.fin == 3 && (b.v == 0 && (b.to == 0 && b.els == 0))
def Block.ok (x : Block) (blocks regs number words : Int) : Bool := x.ends blocks regs && x.ins.all (fun t => t.fits number regs words)
def BFunc.one (f : BFunc) (number words : Int) : Bool :=
  decide (0 ≤ f.regs) && (decide (f.regs ≤ 4000) && (!f.blocks.isEmpty && f.blocks.all (fun x => x.ok f.blocks.length f.regs number words)))
def Blocks.right (b : Blocks) : Bool :=
  decide (0 ≤ b.words) && (decide (b.words ≤ 1048576) && (!b.funcs.isEmpty && b.funcs.zipIdx.all (fun p => p.1.one (p.2 : Int) b.words)))
def Block.count (x : Block) : Nat := 1 + x.ins.length
def BFunc.count (f : BFunc) : Nat := (f.blocks.map Block.count).sum
def Blocks.count (b : Blocks) : Nat := (b.funcs.map BFunc.count).sum
def BFunc.low (f : BFunc) : Bool := decide (f.regs ≤ 60) && decide (f.blocks.length ≤ 40)
theorem one_bad {f : BFunc} {number words : Int} (h : ¬ (0 ≤ f.regs ∧ f.regs ≤ 4000 ∧ f.blocks.length ≠ 0)) : f.one number words = false := by
  rw [Bool.eq_false_iff]; intro h2
  simp only [BFunc.one, Bool.and_eq_true, decide_eq_true_eq, Bool.not_eq_true', List.isEmpty_eq_false_iff] at h2
  exact h ⟨h2.1, h2.2.1, fun e => h2.2.2.1 (List.length_eq_zero_iff.1 e)⟩
theorem one_all {f : BFunc} {number words : Int} (h1 : 0 ≤ f.regs) (h2 : f.regs ≤ 4000) (h3 : f.blocks.length ≠ 0) : f.one number words = f.blocks.all (fun x => x.ok f.blocks.length f.regs number words) := by
  have h3' : f.blocks.isEmpty = false := by
    rw [List.isEmpty_eq_false_iff]; intro e; rw [e] at h3; exact h3 rfl
  simp only [BFunc.one, decide_eq_true h1, decide_eq_true h2, h3', Bool.not_false, Bool.true_and]
theorem right_bad {b : Blocks} (h : ¬ (0 ≤ b.words ∧ b.words ≤ 1048576 ∧ b.funcs.length ≠ 0)) : b.right = false := by
  rw [Bool.eq_false_iff]; intro h2
  simp only [Blocks.right, Bool.and_eq_true, decide_eq_true_eq, Bool.not_eq_true', List.isEmpty_eq_false_iff] at h2
  exact h ⟨h2.1, h2.2.1, fun e => h2.2.2.1 (List.length_eq_zero_iff.1 e)⟩
theorem right_all {b : Blocks} (h1 : 0 ≤ b.words) (h2 : b.words ≤ 1048576) (h3 : b.funcs.length ≠ 0) : b.right = b.funcs.zipIdx.all (fun p => p.1.one (p.2 : Int) b.words) := by
  have h3' : b.funcs.isEmpty = false := by
    rw [List.isEmpty_eq_false_iff]; intro e; rw [e] at h3; exact h3 rfl
  simp only [Blocks.right, decide_eq_true h1, decide_eq_true h2, h3', Bool.not_false, Bool.true_and]
theorem all_succ {α : Type} {l : List α} {p : α → Bool} {k : Nat} {x : α} (hx : l[k]? = some x) (h : (l.take k).all p = true) (hp : p x = true) : (l.take (k + 1)).all p = true := by
  rw [take_succ_eq hx, List.all_append, h]; simp [hp]
theorem all_bad {α : Type} {l : List α} {p : α → Bool} {k : Nat} {x : α} (hx : l[k]? = some x) (hp : p x = false) : l.all p = false := by
  rw [Bool.eq_false_iff]
  intro h
  rw [List.all_eq_true.1 h x (List.mem_of_getElem? hx)] at hp
  cases hp
theorem all_end {α : Type} {l : List α} {p : α → Bool} {k : Nat} (h : (l.take k).all p = true) (hk : l.length ≤ k) : l.all p = true := by
  rwa [List.take_of_length_le hk] at h
theorem zipIdx_get {α : Type} {l : List α} {k : Nat} {x : α} (hx : l[k]? = some x) : l.zipIdx[k]? = some (x, k) := by
  rw [List.getElem?_zipIdx, hx]; simp
def big : Nat := 140737488355328
theorem Cert.ext' {c d : Cert} (h : c.same = d.same) : c = d := by cases c; cases d; simp_all
theorem BFunc.ext' {f g : BFunc} (h1 : f.regs = g.regs) (h2 : f.blocks = g.blocks) : f = g := by cases f; cases g; simp_all
theorem take_all {α : Type} {l l' : List α} {k : Nat} (h : l.take k = l'.take k) (h1 : l.length ≤ k) (h2 : l'.length ≤ k) : l = l' := by
  rwa [List.take_of_length_le h1, List.take_of_length_le h2] at h

end Go.Proofs.Ytjmjmedjjbginaa.Sv

namespace Go.Proofs.Ytjmjmedjjbginaa.Sv
open Go

def wdivide (op a b : Int) : Int × Int := bif b == 0 then (0, 14) else bif op == 7 then (IntKind.u32.wrap (a.tdiv b), 0) else (a.tmod b, 0)
def wshift (op a b : Int) : Int := bif decide (b > 31) then 0 else bif op == 12 then IntKind.u32.wrap (a * 2 ^ (min b.toNat IntKind.u32.bits)) else a.fdiv (2 ^ (min b.toNat IntKind.u32.bits))
def wcompare (op a b : Int) : Int := bif (op == 14 && decide (a < b)) || (op == 15 && a == b) then 1 else 0
def wapp (op a b : Int) : Int × Int :=
  bif op == 4 then (IntKind.u32.wrap (a + b), 0)
  else bif op == 5 then (IntKind.u32.wrap (a - b), 0)
  else bif op == 6 then (IntKind.u32.wrap (a * b), 0)
  else bif op == 7 || op == 8 then wdivide op a b
  else bif op == 9 then (IntKind.u32.wrap ((BitVec.ofInt IntKind.u32.bits a &&& BitVec.ofInt IntKind.u32.bits b).toNat), 0)
  else bif op == 10 then (IntKind.u32.wrap ((BitVec.ofInt IntKind.u32.bits a ||| BitVec.ofInt IntKind.u32.bits b).toNat), 0)
  else bif op == 11 then (IntKind.u32.wrap ((BitVec.ofInt IntKind.u32.bits a ^^^ BitVec.ofInt IntKind.u32.bits b).toNat), 0)
  else bif op == 12 || op == 13 then (wshift op a b, 0)
  else bif op == 14 || op == 15 then (wcompare op a b, 0)
  else (0, 1)
def wpair (p : Int × Int) : AV := .tup [.int .u32 p.1, .int .i64 p.2]
def isW (n : Int) : Prop := 0 ≤ n ∧ n < 4294967296

theorem isW_wrap (n : Int) : isW (IntKind.u32.wrap n) := by
  rw [IntKind.wrap_u32]; constructor <;> omega
theorem wapp_word {op a b : Int} (ha : isW a) (hb : isW b) : isW (wapp op a b).1 := by
  unfold wapp
  cases op == 4 <;> simp only [cond_true, cond_false] <;> try exact isW_wrap _
  cases op == 5 <;> simp only [cond_true, cond_false] <;> try exact isW_wrap _
  cases op == 6 <;> simp only [cond_true, cond_false] <;> try exact isW_wrap _
  cases op == 7 || op == 8
  · simp only [cond_false]
    cases op == 9 <;> simp only [cond_true, cond_false] <;> try exact isW_wrap _
    cases op == 10 <;> simp only [cond_true, cond_false] <;> try exact isW_wrap _
    cases op == 11 <;> simp only [cond_true, cond_false] <;> try exact isW_wrap _
    cases op == 12 || op == 13
    · simp only [cond_false]
      cases op == 14 || op == 15
      · simp only [cond_false]; constructor <;> omega
      · simp only [cond_true, wcompare]
        cases (op == 14 && decide (a < b)) || (op == 15 && a == b) <;> simp only [cond_true, cond_false] <;> constructor <;> omega
    · simp only [cond_true, wshift]
      cases decide (b > 31) <;> simp only [cond_true, cond_false]
      · cases op == 12 <;> simp only [cond_true, cond_false]
        · have hp : (0 : Int) < 2 ^ (min b.toNat IntKind.u32.bits) := Int.pow_pos (by omega)
          rw [Int.fdiv_eq_ediv_of_nonneg _ (Int.le_of_lt hp)]
          refine ⟨Int.ediv_nonneg ha.1 (Int.le_of_lt hp), ?_⟩
          have := Int.ediv_le_self (2 ^ (min b.toNat IntKind.u32.bits)) ha.1
          have := ha.2
          omega
        · exact isW_wrap _
      · constructor <;> omega
  · simp only [cond_true, wdivide]
    cases hz : b == 0 <;> simp only [cond_true, cond_false]
    · cases op == 7 <;> simp only [cond_true, cond_false]
      · rw [Int.tmod_eq_emod_of_nonneg ha.1]
        have hb0 : b ≠ 0 := by simpa using hz
        refine ⟨Int.emod_nonneg _ hb0, ?_⟩
        have := Int.emod_lt_of_pos a (show 0 < b by have := hb.1; omega)
        have := hb.2
        omega
      · exact isW_wrap _
    · constructor <;> omega

end Go.Proofs.Ytjmjmedjjbginaa.Sv

namespace Go.Proofs.Ytjmjmedjjbginaa.Sv
open Go

theorem isW_zero : isW 0 := by constructor <;> omega
section
variable {P : Program} {T : Nat → Option TyI} {o : Oper} {e : AEnv} {h : AHeap}
end
theorem fill_get {α : Type} {F : List α} {f : α → List AV} {z : List AV} {k n : Nat} (hF : F.length = n) (hk : k < n) : ((F.take k).map f ++ List.replicate (n - k) z)[0 + ((k : Nat) : Int).toNat]? = some z := by
  rw [Int.toNat_natCast, Nat.zero_add, List.getElem?_append_right (by simp; omega)]
  rw [List.getElem?_replicate, if_pos (by simp; omega)]
theorem fill_put {α : Type} {F : List α} {f : α → List AV} {z : List AV} {k n : Nat} {x : α} (hF : F.length = n) (hx : F[k]? = some x) : ((F.take k).map f ++ List.replicate (n - k) z).set (0 + ((k : Nat) : Int).toNat) (f x) = (F.take (k + 1)).map f ++ List.replicate (n - (k + 1)) z := by
  have hk : k < n := by rw [← hF]; exact (List.getElem?_eq_some_iff.1 hx).1
  have hl : ((F.take k).map f).length = k := by simp; omega
  rw [Int.toNat_natCast, Nat.zero_add, List.set_append, if_neg (by omega), hl, Nat.sub_self, take_succ_eq hx, List.map_append, List.append_assoc]
  congr 1
  obtain ⟨m, hm⟩ : ∃ m, n - k = m + 1 := ⟨n - k - 1, by omega⟩
  have hm2 : n - (k + 1) = m := by omega
  rw [hm, hm2]
  rfl
theorem fill_len {α : Type} {F : List α} {f : α → List AV} {z : List AV} {k n : Nat} (hF : F.length = n) (hk : k ≤ n) : n = ((F.take k).map f ++ List.replicate (n - k) z).length := by
  simp; omega
theorem fill_end {α : Type} {F : List α} {f : α → List AV} {z : List AV} {k n : Nat} (hF : F.length = n) (hk : n ≤ k) : ((((F.take k).map f ++ List.replicate (n - k) z).drop 0).take n) = F.map f := by
  rw [Nat.sub_eq_zero_of_le hk, List.drop_zero, List.replicate_zero, List.append_nil, List.take_of_length_le (by simp; omega), List.take_of_length_le (by omega)]
def insW (l : List Tac) : Prop := ∀ t ∈ l, isW t.n
def BFunc.mild (f : BFunc) : Prop := 0 ≤ f.regs ∧ f.regs ≤ 100000 ∧ f.blocks.length ≤ 100000 ∧ ∀ x ∈ f.blocks, x.ins.length ≤ 100000 ∧ insW x.ins
def boolCells (b : Bool) : List AV := [.bool b]
def rowCell (r : List Bool) : List AV := [boolsAV r]
def BFunc.all (f : BFunc) : Cert := ⟨List.replicate f.blocks.length (List.replicate f.regs.toNat true)⟩

end Go.Proofs.Ytjmjmedjjbginaa.Sv

namespace Go.Proofs.Ytjmjmedjjbginaa.Sv
open Go Go.ChangeShapes Go.WideShapes Go.ChangeAt Go.RowKit

def isI (n : Int) : Prop := -9223372036854775808 ≤ n ∧ n ≤ 9223372036854775807
theorem wf_i64 {n : Int} (h : (Lit.int .i64 n).wf = true) : isI n := by
  simpa [Lit.wf, IntKind.min, IntKind.max, IntKind.signed, IntKind.bits, isI] using h
theorem wf_u32 {n : Int} (h : (Lit.int .u32 n).wf = true) : isW n := by
  simp [Lit.wf, IntKind.min, IntKind.max, IntKind.signed, IntKind.bits] at h
  exact ⟨h.1, by omega⟩
structure Tac.Ok (t : Tac) : Prop where
  op : isI t.op
  d : isI t.d
  a : isI t.a
  b : isI t.b
  k : isI t.k
  base : isI t.base
  size : isI t.size
  n : isW t.n
structure Block.Ok (x : Block) : Prop where
  len : x.ins.length * 64 ≤ reachBytes
  ins : ∀ t ∈ x.ins, t.Ok
  fin : isI x.fin
  v : isI x.v
  to : isI x.to
  els : isI x.els
structure BFunc.Ok (f : BFunc) : Prop where
  regs : isI f.regs
  len : f.blocks.length * 56 ≤ reachBytes
  blocks : ∀ x ∈ f.blocks, x.Ok
structure Blocks.Ok (b : Blocks) : Prop where
  words : isI b.words
  len : b.funcs.length * 32 ≤ reachBytes
  funcs : ∀ f ∈ b.funcs, f.Ok

theorem BFunc.Ok.insW {f : BFunc} (h : f.Ok) {x : Block} (hx : x ∈ f.blocks) : insW x.ins := fun t ht => ((h.blocks x hx).ins t ht).n

section
variable {H : Type} {enc : TypeId × Value → H} {P : Program} {W : World} {T : Nat → Option TyI}

theorem app1 {cs : List Value} {off u : Nat} {xs ys : List AV} {j : TyI} (hT : TOk P T) (hj : T u = some j) {n : Nat} (hn : j.size = n) (h1 : Reads W (cs.take off) xs) (h2 : Reads W ((cs.drop off).take (P.cellsOf u)) ys) (ho : off ≤ cs.length) : Reads W (cs.take (off + n)) (xs ++ ys) := by
  rw [cellsOf_of hT hj, hn] at h2
  exact h1.app h2 ho

theorem dec_tac {t p q : Nat} (hT : TOk P T) {i j1 j2 : TyI} (hi : T t = some i) (hk : i.k = .struct [(0, p), (1, p), (2, p), (3, p), (4, p), (5, p), (6, p), (7, q)]) (hs : i.size = 8) (h1 : T p = some j1) (k1 : j1.k = .int .i64) (s1 : j1.size = 1) (h2 : T q = some j2) (k2 : j2.k = .int .u32) (s2 : j2.size = 1) :
    Dec enc P W t Tac.cells Tac.Ok := fun fuel cs x h hw => by
  obtain ⟨hl, hp⟩ := struct_parts hT hi hk h hw
  rw [hs] at hl
  obtain ⟨x0, a0, b0⟩ := hp 0 _ _ rfl (Dec.int' hT h1 k1)
  obtain ⟨x1, a1, b1⟩ := hp 1 _ _ rfl (Dec.int' hT h1 k1)
  obtain ⟨x2, a2, b2⟩ := hp 2 _ _ rfl (Dec.int' hT h1 k1)
  obtain ⟨x3, a3, b3⟩ := hp 3 _ _ rfl (Dec.int' hT h1 k1)
  obtain ⟨x4, a4, b4⟩ := hp 4 _ _ rfl (Dec.int' hT h1 k1)
  obtain ⟨x5, a5, b5⟩ := hp 5 _ _ rfl (Dec.int' hT h1 k1)
  obtain ⟨x6, a6, b6⟩ := hp 6 _ _ rfl (Dec.int' hT h1 k1)
  obtain ⟨x7, a7, b7⟩ := hp 7 _ _ rfl (Dec.int' hT h2 k2)
  have c0 := app1 hT h1 s1 (Reads.nil W cs) a0 (by omega)
  have c1 := app1 hT h1 s1 c0 a1 (by omega)
  have c2 := app1 hT h1 s1 c1 a2 (by omega)
  have c3 := app1 hT h1 s1 c2 a3 (by omega)
  have c4 := app1 hT h1 s1 c3 a4 (by omega)
  have c5 := app1 hT h1 s1 c4 a5 (by omega)
  have c6 := app1 hT h1 s1 c5 a6 (by omega)
  have c7 := app1 hT h2 s2 c6 a7 (by omega)
  exact ⟨⟨x0, x1, x2, x3, x4, x5, x6, x7⟩, c7.all hl, ⟨wf_i64 b0, wf_i64 b1, wf_i64 b2, wf_i64 b3, wf_i64 b4, wf_i64 b5, wf_i64 b6, wf_u32 b7⟩⟩

theorem dec_block {t p s u : Nat} (hT : TOk P T) {i j1 j2 j3 : TyI} (hi : T t = some i) (hk : i.k = .struct [(0, s), (1, p), (2, p), (3, p), (4, p)]) (hs : i.size = 5) (h1 : T p = some j1) (k1 : j1.k = .int .i64) (s1 : j1.size = 1)
    (h2 : T s = some j2) (k2 : j2.k = .slice u) (s2 : j2.size = 1) (h3 : T u = some j3) (s3 : j3.size = 8) (b3 : j3.bytes = 64) (hd : Dec enc P W u Tac.cells Tac.Ok) :
    Dec enc P W t Block.cells Block.Ok := fun fuel cs x h hw => by
  obtain ⟨hl, hp⟩ := struct_parts hT hi hk h hw
  rw [hs] at hl
  obtain ⟨x0, a0, b0⟩ := hp 0 _ _ rfl (Dec.slice' hT h2 k2 h3 (by omega) hd)
  obtain ⟨x1, a1, b1⟩ := hp 1 _ _ rfl (Dec.int' hT h1 k1)
  obtain ⟨x2, a2, b2⟩ := hp 2 _ _ rfl (Dec.int' hT h1 k1)
  obtain ⟨x3, a3, b3'⟩ := hp 3 _ _ rfl (Dec.int' hT h1 k1)
  obtain ⟨x4, a4, b4⟩ := hp 4 _ _ rfl (Dec.int' hT h1 k1)
  have c0 := app1 hT h2 s2 (Reads.nil W cs) a0 (by omega)
  have c1 := app1 hT h1 s1 c0 a1 (by omega)
  have c2 := app1 hT h1 s1 c1 a2 (by omega)
  have c3 := app1 hT h1 s1 c2 a3 (by omega)
  have c4 := app1 hT h1 s1 c3 a4 (by omega)
  rw [b3] at b0
  exact ⟨⟨x0, x1, x2, x3, x4⟩, c4.all hl, ⟨b0.1, b0.2, wf_i64 b1, wf_i64 b2, wf_i64 b3', wf_i64 b4⟩⟩

theorem dec_bfunc {t p s u : Nat} (hT : TOk P T) {i j1 j2 j3 : TyI} (hi : T t = some i) (hk : i.k = .struct [(0, p), (1, s)]) (hs : i.size = 2) (h1 : T p = some j1) (k1 : j1.k = .int .i64) (s1 : j1.size = 1)
    (h2 : T s = some j2) (k2 : j2.k = .slice u) (s2 : j2.size = 1) (h3 : T u = some j3) (s3 : j3.size = 5) (b3 : j3.bytes = 56) (hd : Dec enc P W u Block.cells Block.Ok) :
    Dec enc P W t BFunc.cells BFunc.Ok := fun fuel cs x h hw => by
  obtain ⟨hl, hp⟩ := struct_parts hT hi hk h hw
  rw [hs] at hl
  obtain ⟨x0, a0, b0⟩ := hp 0 _ _ rfl (Dec.int' hT h1 k1)
  obtain ⟨x1, a1, b1⟩ := hp 1 _ _ rfl (Dec.slice' hT h2 k2 h3 (by omega) hd)
  have c0 := app1 hT h1 s1 (Reads.nil W cs) a0 (by omega)
  have c1 := app1 hT h2 s2 c0 a1 (by omega)
  rw [b3] at b1
  exact ⟨⟨x0, x1⟩, c1.all hl, ⟨wf_i64 b0, b1.1, b1.2⟩⟩

theorem dec_blocks {t p s u : Nat} (hT : TOk P T) {i j1 j2 j3 : TyI} (hi : T t = some i) (hk : i.k = .struct [(0, p), (1, s)]) (hs : i.size = 2) (h1 : T p = some j1) (k1 : j1.k = .int .i64) (s1 : j1.size = 1)
    (h2 : T s = some j2) (k2 : j2.k = .slice u) (s2 : j2.size = 1) (h3 : T u = some j3) (s3 : j3.size = 2) (b3 : j3.bytes = 32) (hd : Dec enc P W u BFunc.cells BFunc.Ok) :
    Dec enc P W t Blocks.cells Blocks.Ok := fun fuel cs x h hw => by
  obtain ⟨hl, hp⟩ := struct_parts hT hi hk h hw
  rw [hs] at hl
  obtain ⟨x0, a0, b0⟩ := hp 0 _ _ rfl (Dec.int' hT h1 k1)
  obtain ⟨x1, a1, b1⟩ := hp 1 _ _ rfl (Dec.slice' hT h2 k2 h3 (by omega) hd)
  have c0 := app1 hT h1 s1 (Reads.nil W cs) a0 (by omega)
  have c1 := app1 hT h2 s2 c0 a1 (by omega)
  rw [b3] at b1
  exact ⟨⟨x0, x1⟩, c1.all hl, ⟨wf_i64 b0, b1.1, b1.2⟩⟩
end
theorem right_spec {b : Blocks} (h : b.right = true) : 0 ≤ b.words ∧ b.words ≤ 1048576 ∧ b.funcs ≠ [] ∧ ∀ (i : Nat) (f : BFunc), b.funcs[i]? = some f → f.one (i : Int) b.words = true := by
  simp only [Blocks.right, Bool.and_eq_true, decide_eq_true_eq, Bool.not_eq_true', List.isEmpty_eq_false_iff] at h
  exact ⟨h.1, h.2.1, h.2.2.1, fun i f hf => List.all_eq_true.1 h.2.2.2 (f, i) (List.mem_of_getElem? (zipIdx_get hf))⟩
theorem one_spec {f : BFunc} {i w : Int} (h : f.one i w = true) : 0 ≤ f.regs ∧ f.regs ≤ 4000 ∧ f.blocks ≠ [] ∧ ∀ x ∈ f.blocks, x.ends f.blocks.length f.regs = true ∧ ∀ t ∈ x.ins, t.fits i f.regs w = true := by
  simp only [BFunc.one, Bool.and_eq_true, decide_eq_true_eq, Bool.not_eq_true', List.isEmpty_eq_false_iff] at h
  refine ⟨h.1, h.2.1, h.2.2.1, fun x hx => ?_⟩
  have := List.all_eq_true.1 h.2.2.2 x hx
  simp only [Block.ok, Bool.and_eq_true] at this
  exact ⟨this.1, fun t ht => List.all_eq_true.1 this.2 t ht⟩
end Go.Proofs.Ytjmjmedjjbginaa.Sv

namespace Go.Proofs.Ytjmjmedjjbginaa
open Go.ChangeShapes Go.WideShapes Go.ChangeAt Go.RowKit Sv

theorem own' : ownKnob Try.prog.godebug = none := by kernel_rfl
theorem laidOut' : laidOutB Try.prog = true := by kernel_rfl
theorem bool' : Try.prog.underlying 4 = some .bool := by kernel_rfl

section
variable {H : Type} {enc : TypeId × Value → H} {W : World}
theorem decTac : Dec enc Try.prog W 27 Tac.cells Tac.Ok := dec_tac tok rfl rfl rfl rfl rfl rfl rfl rfl rfl
theorem decBlock : Dec enc Try.prog W 54 Block.cells Block.Ok := dec_block tok rfl rfl rfl rfl rfl rfl rfl rfl rfl rfl rfl rfl decTac
theorem decBFunc : Dec enc Try.prog W 24 BFunc.cells BFunc.Ok := dec_bfunc tok rfl rfl rfl rfl rfl rfl rfl rfl rfl rfl rfl rfl decBlock
theorem decBlocks : Dec enc Try.prog W 45 Blocks.cells Blocks.Ok := dec_blocks tok rfl rfl rfl rfl rfl rfl rfl rfl rfl rfl rfl rfl decBFunc
end

end Go.Proofs.Ytjmjmedjjbginaa

namespace Go.Proofs.Ytjmjmedjjbginaa.Sv
open Go

section
variable {P : Program} {T : Nat → Option TyI} {o : Oper} {e : AEnv} {h : AHeap}

theorem q_makeFunc {f : Fn} {first captured : Array Operand} {xs cs : List AV} (ho : o.op = .makeFunc f first captured) (hx : lookAll e first.toList = some xs) (hc : lookAll e captured.toList = some cs) : QLoc P o e h [] (.fn f xs cs) := by
  intro H ι a w s hs g1 g2
  have hx' : lookAll s.env first.toList = some xs := by
    rw [lookAll_agree (e := e) (fun x hx => g1 x (by rw [ho]; simp [Op.operands]; exact .inl (by simpa using hx)))]; exact hx
  have hc' : lookAll s.env captured.toList = some cs := by
    rw [lookAll_agree (e := e) (fun x hx => g1 x (by rw [ho]; simp [Op.operands]; exact .inr (by simpa using hx)))]; exact hc
  have h1 := relAll_map hs hx'
  have h2 := relAll_map hs hc'
  refine ⟨.func f (first.map a.eval) (captured.map a.eval), .fn _ _ _ _ _ _ h1.1 h2.1 h1.2 h2.2, ?_⟩
  simp only [execOp, ho, Instr.makeFunc, Sem.run_bind, Sem.run_pure, Result.andThen_ok]

theorem relAll_append {H : Know} {ι : Lay} {xs ys : List AV} {us vs : Array Value} (h1 : RelAll H ι xs us) (h2 : RelAll H ι ys vs) : RelAll H ι (xs ++ ys) (us ++ vs) := by
  refine ⟨by simp [h1.1, h2.1], fun j x v g1 g2 => ?_⟩
  by_cases hj : j < xs.length
  · rw [List.getElem?_append_left hj] at g1
    rw [Array.getElem?_append_left (by rw [← h1.1]; exact hj)] at g2
    exact h1.2 j x v g1 g2
  · rw [List.getElem?_append_right (by omega)] at g1
    rw [Array.getElem?_append_right (by rw [← h1.1]; omega), ← h1.1] at g2
    exact h2.2 _ x v g1 g2
theorem q_slice_ref (hT : TOk P T) {t : TypeId} {x y : Operand} {b n len m : Nat} {p : Bool} {sz : Nat} {es : List (List AV)} {i j : TyI} {u : Nat} {k : IntKind} {z : Int} (ho : o.op = .slice t x none (some y) none) (hx : look e x = some (.ref b n 0 len)) (hy : look e y = some (.int k z)) (ht : T t = some i) (hk : i.k = .slice u) (hj : T u = some j)
    (hb : h b = some (.row p sz es)) (hn : n = es.length) (hz : z = (m : Int)) (hm : m ≤ len) : QLoc P o e h [b] (.ref b n 0 m) := by
  intro H ι a w s hs g1 g2
  have hx' : look s.env x = some (.ref b n 0 len) := by rw [g1 x (by rw [ho]; simp [Op.operands]), hx]
  have hy' : look s.env y = some (.int k z) := by rw [g1 y (by rw [ho]; simp [Op.operands]), hy]
  have hb' : s.h b = some (.row p sz es) := by rw [g2 b (by simp), hb]
  subst hz
  obtain ⟨info, d, e1, e2, e3, e4, e5, e6⟩ := tyOf_spec (hT _ _ ht)
  obtain ⟨info', d', e1', e2', e3', e4', e5', e6'⟩ := tyOf_spec (hT _ _ hj)
  have hd := tk_slice (P := P) (d := d) (e3 ▸ hk)
  subst hd
  have hvx := look_rel hs hx'
  have hvy := (look_rel hs hy').int_inv
  generalize hva : a.eval x = va at hvx
  obtain ⟨r, hl, ⟨r1, r2, r3, r4, r5, r6⟩, r7⟩ := hs.heap.obj b _ hb' rfl
  have hrun : ∀ (ad : Option Addr) (cap : Nat), m ≤ cap → va = .slice ad len cap → (execOp a.eval o).run P w = .ok (.value (.slice (if cap = 0 then ad else ad.map (·.add (0 * j.size))) (m - 0) (cap - 0))) w := fun ad cap hcap hv => by
    simp only [execOp, ho, hva, hv, hvy, Instr.sliceAt, Instr.slice, Option.map_none, Option.map_some, Sem.run_bind, run_underlying' e2, Result.andThen_ok, run_isz e1', e4', Sem.run_pure]
    simp [Instr.sliceBounds, Instr.sliceBound, asIntOf, hcap]
  by_cases hsol : r.csz = 0
  · obtain ⟨hl0, ad, rfl, hsp⟩ := hvx.ref_dry hl (by omega) hsol (by omega)
    subst hl0
    obtain rfl : m = 0 := by omega
    refine ⟨_, ?_, hrun ad 0 (Nat.le_refl _) rfl⟩
    simpa using hvx
  · obtain ⟨hlen, cap, rfl, hlc, hcap, hmax⟩ := hvx.ref_live hl (by omega) hsol
    refine ⟨_, ?_, hrun _ cap (by omega) rfl⟩
    have := Rel.refL (H := H) ι b n 0 m cap r hl (by omega) (by omega) (by omega) hcap hmax
    have hadd : (if cap = 0 then some (⟨r.rb, 0 * r.sz, none⟩ : Addr) else (some (⟨r.rb, 0 * r.sz, none⟩ : Addr)).map (·.add (0 * j.size))) = some ⟨r.rb, 0 * r.sz, none⟩ := by
      split
      · rfl
      · simp [Addr.add]
    rw [hadd]
    simpa using this
theorem o_appendIn (hT : TOk P T) {t t' : TypeId} {x y : Operand} {i i' j : TyI} {u u' : Nat} {b n len : Nat} {p : Bool} {sz : Nat} {es : List (List AV)} {cs2 : List AV} {q : AV} {R : List Nat}
    (ho : o.op = .call { callee := .builtin .append, args := #[x, y], argTypes := #[t, t'] }) (hx : look e x = some (.ref b n 0 len)) (hy : look e y = some q) (hi : T t = some i) (hk : i.k = .slice u) (hj : T u = some j) (hi' : T t' = some i') (hk' : i'.k = .slice u')
    (hb : h b = some (.row p sz es)) (hn : n = es.length) (hlt : len < n) (hsz : sz = j.size) (hp : 0 < j.size)
    (hsrc : SrcOf h q R [cs2]) (hu2 : cs2.length = sz) (hpure : p = true → cs2.all AV.isPure1 = true) :
    OLoc P o e h (b :: R) [(b, .row p sz (es.set len cs2))] (some (.ref b n 0 (len + 1))) := by
  intro H ι a w s Q hs g1 g2
  have hx' : look s.env x = some (.ref b n 0 len) := by rw [g1 x z64q, hx]
  have hy' : look s.env y = some q := by rw [g1 y z64q, hy]
  have hb' : s.h b = some (.row p sz es) := by rw [g2 b (by simp), hb]
  have hsrc' := hsrc.agree (h' := s.h) (fun c hc => g2 c (by simp [hc]))
  obtain ⟨info, d, e1, e2, e3, e4, e5, e6⟩ := tyOf_spec (hT _ _ hi)
  obtain ⟨infou, du, f1, f2, f3, f4, f5, f6⟩ := tyOf_spec (hT _ _ hj)
  obtain ⟨info', d', e1', e2', e3', e4', e5', e6'⟩ := tyOf_spec (hT _ _ hi')
  have hd := tk_slice (P := P) (d := d) (e3 ▸ hk)
  subst hd
  have hd' := tk_slice (P := P) (d := d') (e3' ▸ hk')
  subst hd'
  subst hsz; subst hn
  obtain ⟨r, hl, ⟨r1, r2, r3, r4, r5, r6⟩, r7⟩ := hs.heap.obj b _ hb' rfl
  have hvx := look_rel hs hx'
  have hvy := look_rel hs hy'
  generalize hva : a.eval x = va at hvx
  generalize hvb : a.eval y = vb at hvy
  have hexec : ∀ (v : Value) (w' : World), (Builtin.append_ #[t, t'] o.type #[va, vb]).run P w = .ok v w' → (execOp a.eval o).run P w = .ok (.value v) w' := fun v w' hrun => by
    simp only [execOp, ho, resolve, invoke, builtin, Sem.run_bind, Sem.run_pure, Result.andThen_ok, List.map_toArray, List.map_cons, List.map_nil, hva, hvb, hrun]
  obtain ⟨news, hsrcw, hnews⟩ := src_of hs.heap hsrc' hvy e2' hp (by intro cs h; simp at h; subst h; exact hu2) w rfl
  rw [← f4] at hsrcw
  have hnl : news.length = j.size := by rw [hsrcw.newsLen, f4]; simp
  have hsol : r.csz ≠ 0 := fun h0 => by
    have : 0 < es.length * j.size := Nat.mul_pos (by omega) hp
    omega
  obtain ⟨hlen, cap, hvv, hlc, hcap, hmax⟩ := hvx.ref_live hl (by omega) hsol
  obtain ⟨c, TT, w1, w2, w3⟩ := r6 hsol
  simp only [Nat.zero_mul, Nat.zero_add] at hcap hvv
  have hcs : c.size = cap * j.size := by rw [w2, ← hcap, r1]
  have hmul : (len + 1) * j.size ≤ es.length * j.size := Nat.mul_le_mul_right _ (by omega)
  have hmul' : (len + 1) * j.size = len * j.size + j.size := by rw [Nat.add_mul, Nat.one_mul]
  have hroom : len + 1 ≤ cap := by
    refine Nat.le_of_mul_le_mul_right (c := j.size) ?_ hp
    rw [← hcs, w2]; omega
  have hfit : len * infou.size + news.length ≤ c.size := by rw [hnl, f4, w2]; omega
  have hrun := run_append_room_row (P := P) (w := w) t t' o.type u infou e2 f1 r.rb len cap c TT w1 vb 1 news hsrcw hroom hfit
  rw [f4] at hrun hfit
  generalize hC : (c.toList.take (len * j.size) ++ news ++ c.toList.drop (len * j.size + news.length)).toArray = C at *
  have hCs : C.size = c.size := by rw [← hC]; simp; omega
  have hget : ∀ k : Nat, C[k]? = if k < len * j.size then c[k]? else if k < len * j.size + j.size then news[k - len * j.size]? else c[k]? := fun k => by
    rw [← hC]
    simp only [List.getElem?_toArray]
    have hm : (c.toList.take (len * j.size)).length = len * j.size := by simp; omega
    by_cases h1 : k < len * j.size
    · rw [if_pos h1, List.getElem?_append_left (by rw [List.length_append, hm]; omega), List.getElem?_append_left (by rw [hm]; exact h1), List.getElem?_take_of_lt h1, Array.getElem?_toList]
    · rw [if_neg h1]
      by_cases h2 : k < len * j.size + j.size
      · rw [if_pos h2, List.getElem?_append_left (by rw [List.length_append, hm, hnl]; exact h2), List.getElem?_append_right (by rw [hm]; omega), hm]
      · rw [if_neg h2, List.getElem?_append_right (by rw [List.length_append, hm, hnl]; omega), List.length_append, hm, hnl, List.getElem?_drop, Array.getElem?_toList]
        congr 1; omega
  have hll : LLe ι (lput ι b r) := LLe.put fun r' hr' => by rw [hl] at hr'; cases hr'; exact .inl rfl
  have hlens : ∀ (i : Nat) (cs : List AV), (es.set len cs2)[i]? = some cs → cs.length = j.size := fun i cs hc => by
    by_cases hi : len = i
    · subst hi; rw [List.getElem?_set_self hlt] at hc; cases hc; exact hu2
    · rw [List.getElem?_set_ne hi] at hc; exact r5 i cs hc
  have hrow : rowCells H (bif p then noLay else lput ι b r) j.size (es.set len cs2) C := by
    refine ⟨hlens, fun i cs k y hc hk => ?_⟩
    have hkk : k < j.size := by
      rw [← hlens i cs hc]
      exact (List.getElem?_eq_some_iff.1 hk).1
    have hi : i < es.length := by
      have := (List.getElem?_eq_some_iff.1 hc).1
      simpa using this
    by_cases hil : len = i
    · subst hil
      rw [List.getElem?_set_self hlt] at hc; cases hc
      obtain ⟨v, k1, k2, k3⟩ := hnews 0 cs2 k y rfl hk
      rw [Nat.zero_mul, Nat.zero_add] at k1
      refine ⟨v, by rw [hget, if_neg (by omega), if_pos (by omega), Nat.add_sub_cancel_left]; exact k1, ?_, k3⟩
      cases p with
      | false => exact k2.mono (KLe.refl _) hll
      | true => exact pure1_rel (List.all_eq_true.1 (hpure rfl) y (List.mem_of_getElem? hk)) k2
    · rw [List.getElem?_set_ne hil] at hc
      obtain ⟨v, k1, k2, k3⟩ := w3.2 i cs k y hc hk
      refine ⟨v, ?_, ?_, k3⟩
      · rw [hget]
        by_cases h1 : i < len
        · have : (i + 1) * j.size ≤ len * j.size := Nat.mul_le_mul_right _ (by omega)
          rw [Nat.add_mul, Nat.one_mul] at this
          rw [if_pos (by omega)]; exact k1
        · have : (len + 1) * j.size ≤ i * j.size := Nat.mul_le_mul_right _ (by omega)
          rw [if_neg (by omega), if_neg (by omega)]; exact k1
      · cases p with
        | false => exact k2.mono (KLe.refl _) hll
        | true => exact k2
  obtain ⟨u1, u2⟩ := hs.heap.upd (w' := w.setRow r.rb C) (o0 := .row p j.size es) (o' := .row p j.size (es.set len cs2)) (r' := r) hb' rfl
    (.inr ⟨r, hl, rfl, .inl rfl⟩) (fun _ => .inr ⟨r, hl, rfl, hsol, rfl⟩)
    (fun rb hlt' hne => setRow_other w r.rb rb _ (hne r hl rfl hsol)) (by simp) (setRow_os _ _ _) (setRow_out _ _ _)
    ⟨r1, r2, by simp [r3], by simpa using r4, hrow.1, fun _ => ⟨C, TT, w1.setRow hCs, hCs.trans w2, hrow⟩⟩
  have hex := hexec _ _ (hvv ▸ hrun)
  unfold Oper.wp
  rw [hex]
  refine ⟨_, H, _, rfl, (fun x ex => ?_), u1, u2⟩
  cases ex
  have := Rel.refL (H := H) (lput ι b r) b es.length 0 (len + 1) cap _ (lput_same _ _ _) r3 (by omega) hroom (by rw [Nat.zero_add]; exact hcap) hmax
  simpa using this
def pushE (es : List (List AV)) (len : Nat) (cs : List AV) : List (List AV) := if len < es.length then es.set len cs else es ++ [cs]
theorem pushE_take {es : List (List AV)} {len : Nat} {cs : List AV} (h : len ≤ es.length) : (pushE es len cs).take (len + 1) = es.take len ++ [cs] := by
  unfold pushE
  split
  · rename_i hlt
    rw [take_succ_eq (List.getElem?_set_self hlt), List.take_set_of_le (Nat.le_refl _)]
  · have : len = es.length := by omega
    subst this
    rw [List.take_of_length_le (by simp), List.take_of_length_le (Nat.le_refl _)]
theorem pushE_len {es : List (List AV)} {len : Nat} {cs : List AV} (h : len ≤ es.length) : len + 1 ≤ (pushE es len cs).length := by
  unfold pushE
  split
  · simp; omega
  · simp; omega
theorem o_push (hT : TOk P T) {t t' : TypeId} {x y : Operand} {i i' j : TyI} {u u' : Nat} {b n len : Nat} {p : Bool} {sz : Nat} {es : List (List AV)} {cs2 : List AV} {q : AV} {R : List Nat}
    (ho : o.op = .call { callee := .builtin .append, args := #[x, y], argTypes := #[t, t'] }) (hx : look e x = some (.ref b n 0 len)) (hy : look e y = some q) (hi : T t = some i) (hk : i.k = .slice u) (hj : T u = some j) (hi' : T t' = some i') (hk' : i'.k = .slice u')
    (hb : h b = some (.row p sz es)) (hn : n = es.length) (hlt : len ≤ n) (hsz : sz = j.size) (hz : j.zero.length = j.size) (hp : 0 < j.size)
    (hsrc : SrcOf h q R [cs2]) (hu2 : cs2.length = sz) (hpure : p = true → cs2.all AV.isPure1 = true) (hby : (es.length + 1) * j.bytes ≤ 140737488355328) (hml : es.length + 1 ≤ maxLen) :
    OLoc P o e h (b :: R) [(b, .row p sz (pushE es len cs2))] (some (.ref b (pushE es len cs2).length 0 (len + 1))) := by
  by_cases h1 : len < es.length
  · have e1 : pushE es len cs2 = es.set len cs2 := by simp [pushE, h1]
    rw [e1]
    have := o_appendIn hT ho hx hy hi hk hj hi' hk' hb hn (by omega) hsz hp hsrc hu2 hpure
    rw [List.length_set, ← hn]; exact this
  · have e1 : pushE es len cs2 = es ++ [cs2] := by simp [pushE, h1]
    have hl : len = n := by omega
    subst hl
    rw [e1]
    have := o_append hT ho hx hy hi hk hj hi' hk' hb hn hsz hz hp hsrc (by intro cs h; simp at h; subst h; exact hu2) (fun hp cs h => by simp at h; subst h; exact hpure hp) (m := 1) rfl hby hml
    rw [show (es ++ [cs2]).length = len + 1 by simp [hn]]; exact this
end
end Go.Proofs.Ytjmjmedjjbginaa.Sv

namespace Go.Proofs.Ytjmjmedjjbginaa.Sv
open Go

section
variable {P : Program} {T : Nat → Option TyI} {o : Oper} {e : AEnv} {h : AHeap}
def jAV (f : Bool) (b : Nat) (es : List (List AV)) : AV := bif f then .lst true es else .ref b es.length 0 es.length
def jObj (f : Bool) (sz : Nat) (es : List (List AV)) : AObj := bif f then .free else .row true sz es

theorem o_appendJ (hT : TOk P T) {t t' : TypeId} {x y : Operand} {i i' j : TyI} {u u' : Nat} {f ex2 : Bool} {sz : Nat} {es es2 : List (List AV)} (b : Nat)
    (ho : o.op = .call { callee := .builtin .append, args := #[x, y], argTypes := #[t, t'] }) (hx : look e x = some (jAV f b es)) (hy : look e y = some (.lst ex2 es2)) (hi : T t = some i) (hk : i.k = .slice u) (hj : T u = some j) (hi' : T t' = some i') (hk' : i'.k = .slice u')
    (hb : h b = some (jObj f sz es)) (hsz : sz = j.size) (hz : j.zero.length = j.size) (hp : 0 < j.size)
    (hu : ∀ cs ∈ es, cs.length = sz) (hpu : ∀ cs ∈ es, cs.all AV.isPure1 = true) (hu2 : ∀ cs ∈ es2, cs.length = sz) (hpure : ∀ cs ∈ es2, cs.all AV.isPure1 = true)
    (hby : (es.length + es2.length) * j.bytes ≤ 140737488355328) (hml : es.length + es2.length ≤ maxLen) :
    OLoc P o e h [b] [(b, jObj (f && es2.isEmpty) sz (es ++ es2))] (some (jAV (f && es2.isEmpty) b (es ++ es2))) := by
  cases f with
  | false =>
    have := o_append hT ho hx hy hi hk hj hi' hk' hb rfl hsz hz hp (.lst ex2 es2) hu2 (fun _ => hpure) (m := es2.length) rfl hby hml
    simpa [jAV, jObj] using this
  | true =>
    simp only [jAV, jObj, cond_true] at hx hb
    cases hes2 : es2 with
    | nil =>
      subst hes2
      simp only [List.isEmpty_nil, Bool.and_self, List.append_nil, jObj, jAV, cond_true]
      intro H ι a w s Q hs g1 g2
      have hx' : look s.env x = some (.lst true es) := by rw [g1 x z64q, hx]
      have hy' : look s.env y = some (.lst ex2 []) := by rw [g1 y z64q, hy]
      have hb' : s.h b = some .free := by rw [g2 b (by simp), hb]
      obtain ⟨info, d, e1, e2, e3, e4, e5, e6⟩ := tyOf_spec (hT _ _ hi)
      obtain ⟨infou, du, f1, f2, f3, f4, f5, f6⟩ := tyOf_spec (hT _ _ hj)
      obtain ⟨info', d', e1', e2', e3', e4', e5', e6'⟩ := tyOf_spec (hT _ _ hi')
      have hd := tk_slice (P := P) (d := d) (e3 ▸ hk)
      subst hd
      have hd' := tk_slice (P := P) (d := d') (e3' ▸ hk')
      subst hd'
      have hvx := look_rel hs hx'
      have hvy := look_rel hs hy'
      generalize hva : a.eval x = va at hvx
      generalize hvb : a.eval y = vb at hvy
      obtain ⟨news, hsrcw, hnews⟩ := src_of hs.heap (SrcOf.lst ex2 []) hvy e2' hp (by intro cs h; cases h) w rfl
      rw [← f4] at hsrcw
      have hnn : news = [] := List.eq_nil_of_length_eq_zero (by rw [hsrcw.newsLen]; simp)
      subst hnn
      have hsame : hputs s.h [(b, .free)] = s.h := by
        funext c
        by_cases hc : c = b
        · subst hc; simp [hputs, hput_same, hb']
        · simp [hputs, hput_ne _ _ hc]
      have hexec : ∀ (v : Value) (w' : World), (Builtin.append_ #[t, t'] o.type #[va, vb]).run P w = .ok v w' → (execOp a.eval o).run P w = .ok (.value v) w' := fun v w' hrun => by
        simp only [execOp, ho, resolve, invoke, builtin, Sem.run_bind, Sem.run_pure, Result.andThen_ok, List.map_toArray, List.map_cons, List.map_nil, hva, hvb, hrun]
      have hrun : (Builtin.append_ #[t, t'] o.type #[va, vb]).run P w = .ok va w := by
        rcases hvx.lst_inv with ⟨rfl, ad, cap, rfl, h1, h2, h3, h4⟩ | ⟨hne, b0, off, cap, sz0, c, vals, rfl, hb0, hsz', hv, hr, hc1, hex, hcap, hmax⟩
        · have := h1 rfl
          subst this
          exact run_append_dry t t' o.type u infou e2 f1 ad vb hsrcw
        · have hsrc0 : Src P infou.size t' vb 0 [] w := hsrcw
          have h1 := hsrc0.len
          have h2 := hsrc0.cells
          rcases hsrcw.kind with ⟨e', hk⟩ | hk <;> simp [Builtin.append_, run_underlying e2, run_underlying hk, sizeOf, typeInfo, f1, h1, h2, hcap, storeCells]
      unfold Oper.wp
      rw [hexec _ _ hrun, hsame]
      exact ⟨va, H, ι, rfl, (fun x ex => by have := Option.some.inj ex; subst this; exact hvx), hs.heap, Step.refl _ _ _ _⟩
    | cons y0 r0 =>
      rw [← hes2]
      have hpos : 0 < es2.length := by rw [hes2]; simp
      have hie : es2.isEmpty = false := by rw [hes2]; rfl
      simp only [hie, Bool.and_false, jObj, jAV, cond_false]
      subst hsz
      refine OLoc.of_new hb (by simp) hp fun H ι a w s hs g1 g2 => ?_
      have hx' : look s.env x = some (.lst true es) := by rw [g1 x z64q, hx]
      have hy' : look s.env y = some (.lst ex2 es2) := by rw [g1 y z64q, hy]
      obtain ⟨info, d, e1, e2, e3, e4, e5, e6⟩ := tyOf_spec (hT _ _ hi)
      obtain ⟨infou, du, f1, f2, f3, f4, f5, f6⟩ := tyOf_spec (hT _ _ hj)
      obtain ⟨info', d', e1', e2', e3', e4', e5', e6'⟩ := tyOf_spec (hT _ _ hi')
      have hd := tk_slice (P := P) (d := d) (e3 ▸ hk)
      subst hd
      have hd' := tk_slice (P := P) (d := d') (e3' ▸ hk')
      subst hd'
      obtain ⟨z, hz1, hz2⟩ := zero_spec f6 hz hp
      have hzl : z.cells.size = j.size := by rw [← hz]; simpa using (allAV_rel (H := H) (ι := noLay) hz2).1.symm
      have hvx := look_rel hs hx'
      have hvy := look_rel hs hy'
      generalize hva : a.eval x = va at hvx
      generalize hvb : a.eval y = vb at hvy
      have hexec : ∀ (v : Value) (w' : World), (Builtin.append_ #[t, t'] o.type #[va, vb]).run P w = .ok v w' → (execOp a.eval o).run P w = .ok (.value v) w' := fun v w' hrun => by
        simp only [execOp, ho, resolve, invoke, builtin, Sem.run_bind, Sem.run_pure, Result.andThen_ok, List.map_toArray, List.map_cons, List.map_nil, hva, hvb, hrun]
      obtain ⟨news, hsrcw, hnews⟩ := src_of hs.heap (SrcOf.lst ex2 es2) hvy e2' hp hu2 w rfl
      rw [← f4] at hsrcw
      have hnl : news.length = es2.length * j.size := by rw [hsrcw.newsLen, f4]
      have h63 : ((es.length + es2.length : Nat) : Int) ≤ 9223372036854775807 := by
        have := hml; simp only [maxLen] at this; omega
      -- what stands there already
      obtain ⟨base, olds, hv, hold, hol, holdr⟩ : ∃ (base : Option Addr) (olds : List Value), va = .slice base es.length es.length ∧ (Builtin.firstCells infou.size es.length (.slice base es.length es.length)).run P w.drew = .ok olds.toArray w.drew ∧ olds.length = es.length * j.size ∧
          (∀ (i : Nat) (cs : List AV) (k : Nat) (x : AV), es[i]? = some cs → cs[k]? = some x → ∃ v, olds[i * j.size + k]? = some v ∧ Rel H noLay x v ∧ x.cell1 = true) := by
        rcases hvx.lst_inv with ⟨rfl, ad, cap, rfl, h1, h2, h3, h4⟩ | ⟨hne, b0, off, cap, sz0, c, vals, rfl, hb0, hsz', hv, hr, hc1, hex, hcap, hmax⟩
        · have := h1 rfl
          subst this
          refine ⟨ad, [], rfl, ?_, by simp, fun i cs k x h1 => by simp at h1⟩
          cases ad <;> simp [Builtin.firstCells, loadCells, loadCellsFrom]
        · have hcl := hex rfl
          subst hcl
          obtain ⟨TT, fr, hbw⟩ := hs.heap.know b0 c hb0
          have hss : sz0 = j.size := by
            cases es with
            | nil => exact absurd rfl hne
            | cons cs es => rw [← hsz' 0 cs (by simp), hu cs (by simp)]
          subst hss
          have hget : ∀ k, k < es.length * j.size → ∃ v, c[off + k]? = some v := fun k hk => by
            have hi : k / j.size < es.length := Nat.div_lt_of_lt_mul (by rw [Nat.mul_comm]; exact hk)
            have hm : k % j.size < j.size := Nat.mod_lt _ hp
            have hjj : k / j.size * j.size + k % j.size = k := by rw [Nat.mul_comm]; exact Nat.div_add_mod k j.size
            have h1 : es[k / j.size]? = some es[k / j.size] := List.getElem?_eq_getElem hi
            have h2 : (es[k / j.size])[k % j.size]? = some ((es[k / j.size])[k % j.size]'(by rw [hsz' _ _ h1]; exact hm)) := List.getElem?_eq_getElem _
            have := hv _ _ _ _ h1 h2
            rw [Nat.add_assoc, hjj] at this
            exact ⟨_, this⟩
          have hfit : off + es.length * j.size ≤ c.size := by
            rcases Nat.eq_zero_or_pos (es.length * j.size) with h0 | h0
            · have := List.length_pos_iff.2 hne
              have := Nat.mul_pos this hp
              omega
            · obtain ⟨v, hv⟩ := hget (es.length * j.size - 1) (by omega)
              have := (Array.getElem?_eq_some_iff.1 hv).1
              omega
          have hg : ∀ k, k < es.length * j.size → ((c.toList.drop off).take (es.length * j.size))[k]? = c[off + k]? := fun k hk => by
            rw [List.getElem?_take_of_lt hk, List.getElem?_drop, Array.getElem?_toList]
          have hl : ((c.toList.drop off).take (es.length * j.size)).length = es.length * j.size := by simp; omega
          refine ⟨_, (c.toList.drop off).take (es.length * j.size), rfl, ?_, hl, fun i cs k x h1 h2 => ?_⟩
          · rw [f4]
            refine run_firstCells_some (P := P) w.drew j.size es.length ⟨b0, off, none⟩ es.length es.length _ hl (fun k v hk => ?_)
            have hkl : k < es.length * j.size := by
              have := (List.getElem?_eq_some_iff.1 hk).1
              omega
            rw [hg k hkl] at hk
            rw [add_mk, World.cell?_drew, cell_row hbw]
            exact hk
          · have hi : i < es.length := (List.getElem?_eq_some_iff.1 h1).1
            have hkk : k < j.size := by rw [← hsz' i cs h1]; exact (List.getElem?_eq_some_iff.1 h2).1
            have h3 := hv i cs k x h1 h2
            exact ⟨_, by rw [hg _ (mul_add_lt_mul hi hkk), ← Nat.add_assoc]; exact h3, hr i cs k x h1 h2, hc1 i cs k x h1 h2⟩
      have hfit : Builtin.nextslicecap (es.length + es2.length) es.length * infou.bytes ≤ 281474976710656 := growslice_fits (by omega) (by rw [f5]; exact hby)
      have hrun := run_append_grow_src (P := P) w t t' o.type u infou z e2 f1 hz1 base es.length es.length olds hold vb es2.length news hsrcw (by omega) h63 hfit
      have hge := grownCap_ge w (es.length + es2.length) es.length u
      have hcm : grownCap w (es.length + es2.length) es.length u ≤ maxLen := grownCap_le_maxLen w _ es.length u hml
      generalize hcc : grownCap w (es.length + es2.length) es.length u = nc at *
      generalize hC : (olds ++ news).toArray ++ Builtin.zeroCells z.cells (nc - (es.length + es2.length)) = C at *
      have hCs : C.size = nc * j.size := by
        rw [← hC, Array.size_append, size_zeroCells, hzl]
        simp only [List.size_toArray, List.length_append, hol, hnl, ← Nat.add_mul]
        congr 1; omega
      have hCg : ∀ k, k < olds.length + news.length → C[k]? = (olds ++ news)[k]? := fun k hk => by
        rw [← hC, Array.getElem?_append_left (by simp; omega)]
        simp
      have hnewsp : ∀ (i : Nat) (cs : List AV) (k : Nat) (y : AV), es2[i]? = some cs → cs[k]? = some y → ∃ v, news[i * j.size + k]? = some v ∧ Rel H noLay y v ∧ y.cell1 = true := fun i cs k y h1 h2 => by
        obtain ⟨v, k1, k2, k3⟩ := hnews i cs k y h1 h2
        exact ⟨v, k1, pure1_rel (List.all_eq_true.1 (hpure cs (List.mem_of_getElem? h1)) y (List.mem_of_getElem? h2)) k2, k3⟩
      refine ⟨_, C, u, w.drew, rfl, rfl, rfl, ?_, rowCells_append hol hnl hu2 (fun i cs h => hu cs (List.mem_of_getElem? h)) holdr hnewsp hCg, hexec _ _ (hv ▸ hrun), ?_⟩
      · rw [List.length_append, hCs]; exact Nat.mul_le_mul_right _ hge
      · have := Rel.refL (H := H) (lput ι b ⟨w.heap.size, j.size, (es ++ es2).length, C.size⟩) b (es ++ es2).length 0 (es ++ es2).length nc _ (lput_same _ _ _) rfl (by omega) (by rw [List.length_append]; exact hge) (by simp [hCs]) hcm
        simpa using this
end

theorem Ghost.trans {s s' s'' : AState} (g1 : Ghost s s') (g2 : Ghost s' s'') : Ghost s s'' := fun H ι a w hs => by
  obtain ⟨H1, ι1, h1, s1⟩ := g1 H ι a w hs
  obtain ⟨H2, ι2, h2, s2⟩ := g2 H1 ι1 a w h1
  exact ⟨H2, ι2, h2, Step.trans hs.heap s1 h1.heap s2⟩
theorem nil_empty {H : Know} {ι : Lay} {v : Value} (h : Rel H ι .nil v) : Rel H ι (.lst false []) v := by
  rw [h.nil_inv]; exact .lst0 _ _ _ _ (fun h => by cases h) (Nat.zero_le _) (fun _ => rfl) trivial
theorem Ghost.weakRow {n : Nat} {e : AEnv} {h : AHeap} (b : Nat) {sz : Nat} {es es' : List (List AV)} (hb : h b = some (.row true sz es)) (hl : es'.length = es.length)
    (hw : ∀ (i : Nat) (cs cs' : List AV), es[i]? = some cs → es'[i]? = some cs' → cs'.length = cs.length ∧ ∀ (j : Nat) (x y : AV), cs[j]? = some x → cs'[j]? = some y → y.cell1 = true ∧ ∀ H v, Rel H noLay x v → Rel H noLay y v) : Ghost ⟨n, e, h⟩ ⟨n, e, hput h b (.row true sz es')⟩ := fun H ι a w hs => by
  obtain ⟨r, hr, ⟨r1, r2, r3, r4, r5, r6⟩, r7⟩ := hs.heap.obj b _ hb rfl
  have hlput : lput ι b r = ι := by
    funext c
    by_cases hc : c = b
    · subst hc; rw [lput_same, hr]
    · rw [lput_ne _ _ hc]
  have old : ∀ (i : Nat) (cs' : List AV), es'[i]? = some cs' → ∃ cs, es[i]? = some cs := fun i cs' h => by
    have := (List.getElem?_eq_some_iff.1 h).1
    exact ⟨_, List.getElem?_eq_getElem (by omega)⟩
  have hlen : ∀ (i : Nat) (cs' : List AV), es'[i]? = some cs' → cs'.length = sz := fun i cs' h => by
    obtain ⟨cs, hc⟩ := old i cs' h
    rw [(hw i cs cs' hc h).1, r5 i cs hc]
  have := hs.heap.upd (w' := w) (o0 := .row true sz es) (o' := .row true sz es') (r' := r) hb rfl (.inr ⟨r, hr, rfl, .inl rfl⟩) (fun hs' => .inr ⟨r, hr, rfl, hs', rfl⟩) (fun _ _ _ => rfl) (Nat.le_refl _) rfl rfl
    ⟨r1, r2, by rw [hl]; exact r3, by rw [hl]; exact r4, hlen, fun hsol => by
      obtain ⟨c, TT, w1, w2, w3⟩ := r6 hsol
      exact ⟨c, TT, w1, w2, hlen, fun k ds q z hk hq => by
        obtain ⟨cs, hc⟩ := old k ds hk
        obtain ⟨e1, e2⟩ := hw k cs ds hc hk
        have hq' : q < cs.length := by rw [← e1]; exact (List.getElem?_eq_some_iff.1 hq).1
        have hx : cs[q]? = some cs[q] := List.getElem?_eq_getElem hq'
        obtain ⟨v, f1, f2, f3⟩ := w3.2 k cs q _ hc hx
        obtain ⟨g1, g2⟩ := e2 q _ z hx hq
        exact ⟨v, f1, g2 _ _ f2, g1⟩⟩⟩
  rw [hlput] at this
  exact ⟨H, ι, ⟨hs.n, hs.d, hs.env, this.1⟩, this.2⟩
theorem HSub.from_rm {h : AHeap} {k b : Nat} (hh : HSub (hFrom k) h) (hb : b < k) : HSub (hFrom k) (hrm h b) := fun c x hx => by
  have hne : c ≠ b := fun e => by
    subst e
    have h1 : Nat.blt c k = true := by rw [Nat.blt_eq]; exact hb
    simp only [hFrom, h1, cond_true] at hx
    cases hx
  rw [hrm_ne _ hne]; exact hh c x hx
end Go.Proofs.Ytjmjmedjjbginaa.Sv

namespace Go.Proofs.Ytjmjmedjjbginaa.Sv
open Go

theorem Ghost.freezeA {n : Nat} {e : AEnv} {h : AHeap} (t b : Nat) {m sz : Nat} {es : List (List AV)} (ht : e t = some (.ref b m 0 m)) (hb : h b = some (.row true sz es)) (hm : m = es.length) :
    Ghost ⟨n, e, h⟩ ⟨n, eput e t (.lst false es), hrm h b⟩ := by
  have := Ghost.freeze (n := n) t b ht hb hm
  rwa [List.drop_zero, List.take_of_length_le (Nat.le_of_eq hm.symm)] at this
def pathCell (p : List Int) : List AV := [intsAV p]
def Block.nexts (b : Block) : List Int := bif b.fin == 1 then [b.to] else bif b.fin == 2 then [b.to, b.els] else []
def BFunc.nexts (f : BFunc) : List (List Int) := f.blocks.map Block.nexts
theorem nexts_length (f : BFunc) : f.nexts.length = f.blocks.length := by simp [BFunc.nexts]
theorem nexts_get {f : BFunc} {k : Nat} {x : Block} (h : f.blocks[k]? = some x) : f.nexts[k]? = some x.nexts := by simp [BFunc.nexts, h]
theorem fill_skip {α : Type} {F : List α} {f : α → List AV} {z : List AV} {k n : Nat} {x : α} (hF : F.length = n) (hx : F[k]? = some x) (hz : f x = z) : ((F.take k).map f ++ List.replicate (n - k) z) = (F.take (k + 1)).map f ++ List.replicate (n - (k + 1)) z := by
  have hk : k < n := by rw [← hF]; exact (List.getElem?_eq_some_iff.1 hx).1
  rw [take_succ_eq hx, List.map_append, List.append_assoc]
  congr 1
  obtain ⟨m, hm⟩ : ∃ m, n - k = m + 1 := ⟨n - k - 1, by omega⟩
  have hm2 : n - (k + 1) = m := by omega
  rw [hm, hm2]
  simp [List.replicate_succ, hz]
structure DS where
  been : List Bool
  way : List (Int × Int)
def notBeen (been : List Bool) (b : Int) : Bool := decide (b ≥ 0) && decide (b < been.length) && !((been[b.toNat]?).getD true)
def dinto (b : Int) (s : DS) : DS := bif notBeen s.been b then ⟨s.been.set b.toNat true, s.way ++ [(b, 0)]⟩ else s
def rowAt (next : List (List Int)) (b : Int) : List Int := (next[b.toNat]?).getD []
def dstep (next : List (List Int)) (s : DS) : DS :=
  match s.way.getLast? with
  | none => s
  | some (b, i) => bif decide (i < (rowAt next b).length) then dinto (((rowAt next b)[i.toNat]?).getD 0) ⟨s.been, s.way.dropLast ++ [(b, i + 1)]⟩ else ⟨s.been, s.way.dropLast⟩
def drun (next : List (List Int)) : Nat → DS → DS
  | 0, s => s
  | g + 1, s => if s.way.isEmpty then s else drun next g (dstep next s)
def nu : List Bool → List (List Int) → Nat
  | x :: xs, l :: ls => (bif x then 0 else l.length + 2) + nu xs ls
  | _, _ => 0
def wmu (next : List (List Int)) (way : List (Int × Int)) : Nat := (way.map fun p => (rowAt next p.1).length - p.2.toNat + 1).sum
def dmu (next : List (List Int)) (s : DS) : Nat := nu s.been next + wmu next s.way
theorem nu_set : ∀ {been : List Bool} {next : List (List Int)} {i : Nat} {l : List Int}, been[i]? = some false → next[i]? = some l → nu (been.set i true) next + (l.length + 2) = nu been next
  | [], _, _, _, h, _ => by simp at h
  | _ :: _, [], _, _, _, h => by simp at h
  | x :: xs, m :: ls, 0, l, h1, h2 => by
    simp at h1 h2; subst h1; subst h2
    simp [nu]; omega
  | x :: xs, m :: ls, i + 1, l, h1, h2 => by
    simp only [List.getElem?_cons_succ] at h1 h2
    have := nu_set h1 h2
    simp only [List.set_cons_succ, nu]; omega
def unb (l : List Bool) : Nat := (l.map fun x => bif x then 0 else 1).sum
theorem unb_set : ∀ {been : List Bool} {i : Nat}, been[i]? = some false → unb (been.set i true) + 1 = unb been
  | [], _, h => by simp at h
  | x :: xs, 0, h => by simp at h; subst h; simp [unb]; omega
  | x :: xs, i + 1, h => by
    simp only [List.getElem?_cons_succ] at h
    have := unb_set h
    simp only [unb, List.set_cons_succ, List.map_cons, List.sum_cons] at this ⊢
    omega
theorem notBeen_get {been : List Bool} {b : Int} (h : notBeen been b = true) : 0 ≤ b ∧ b < been.length ∧ been[b.toNat]? = some false := by
  simp only [notBeen, Bool.and_eq_true, decide_eq_true_eq, Bool.not_eq_true'] at h
  obtain ⟨⟨h1, h2⟩, h3⟩ := h
  refine ⟨h1, h2, ?_⟩
  obtain ⟨v, hv⟩ := get_of_lt (l := been) (k := b.toNat) (by omega)
  rw [hv] at h3 ⊢
  simpa using h3
theorem wmu_snoc (next : List (List Int)) (w : List (Int × Int)) (p : Int × Int) : wmu next (w ++ [p]) = wmu next w + ((rowAt next p.1).length - p.2.toNat + 1) := by simp [wmu]
theorem dinto_mu {next : List (List Int)} {b : Int} {s : DS} (hn : s.been.length = next.length) : dmu next (dinto b s) ≤ dmu next s := by
  unfold dinto
  cases h : notBeen s.been b with
  | false => exact Nat.le_refl _
  | true =>
    obtain ⟨h1, h2, h3⟩ := notBeen_get h
    obtain ⟨l, hl⟩ := get_of_lt (l := next) (k := b.toNat) (by omega)
    have := nu_set h3 hl
    simp only [cond_true, dmu, wmu_snoc]
    have hr : rowAt next b = l := by simp [rowAt, hl]
    rw [hr]
    simp
    omega
theorem way_last {w : List (Int × Int)} {p : Int × Int} (h : w.getLast? = some p) : w = w.dropLast ++ [p] := by
  cases w with
  | nil => simp at h
  | cons x r =>
    have hne : x :: r ≠ [] := by simp
    rw [List.getLast?_eq_some_getLast hne] at h
    cases h
    exact (List.dropLast_concat_getLast hne).symm
theorem dropLast_take' {α : Type} {l : List α} {n : Nat} (h : n ≤ l.length) : (l.take n).dropLast = l.take (n - 1) := by
  rw [List.dropLast_eq_take, List.take_take, List.length_take]
  congr 1; omega
structure DS.ok (next : List (List Int)) (s : DS) : Prop where
  len : s.been.length = next.length
  way : ∀ p ∈ s.way, 0 ≤ p.1 ∧ p.1 < next.length ∧ 0 ≤ p.2 ∧ p.2 ≤ (rowAt next p.1).length
theorem dinto_ok {next : List (List Int)} {b : Int} {s : DS} (h : s.ok next) : (dinto b s).ok next := by
  unfold dinto
  cases e : notBeen s.been b with
  | false => exact h
  | true =>
    obtain ⟨h1, h2, h3⟩ := notBeen_get e
    have := h.len
    refine ⟨by simpa using h.len, fun p hp => ?_⟩
    simp only [cond_true, List.mem_append, List.mem_singleton] at hp
    rcases hp with hp | rfl
    · exact h.way p hp
    · exact ⟨h1, by omega, Int.le_refl _, Int.natCast_nonneg _⟩
theorem dstep_ok {next : List (List Int)} {s : DS} (h : s.ok next) : (dstep next s).ok next := by
  unfold dstep
  split
  · exact h
  · rename_i b i e
    have hw := way_last e
    have hb := h.way (b, i) (by rw [hw]; simp)
    cases hi : decide (i < (rowAt next b).length) with
    | false => exact ⟨h.len, fun p hp => h.way p (List.dropLast_subset _ hp)⟩
    | true =>
      simp only [decide_eq_true_eq] at hi
      refine dinto_ok ⟨h.len, fun p hp => ?_⟩
      simp only [List.mem_append, List.mem_singleton] at hp
      rcases hp with hp | rfl
      · exact h.way p (List.dropLast_subset _ hp)
      · exact ⟨hb.1, hb.2.1, by show 0 ≤ i + 1; have := hb.2.2.1; simp only at this; omega, by show i + 1 ≤ ((rowAt next b).length : Int); omega⟩
theorem dstep_mu {next : List (List Int)} {s : DS} (h : s.ok next) (hne : s.way ≠ []) : dmu next (dstep next s) < dmu next s := by
  unfold dstep
  cases e : s.way.getLast? with
  | none => rw [List.getLast?_eq_none_iff] at e; exact absurd e hne
  | some p =>
    obtain ⟨b, i⟩ := p
    have hw := way_last e
    have hb := h.way (b, i) (by rw [hw]; simp)
    simp only at hb
    have e1 : dmu next s = nu s.been next + (wmu next s.way.dropLast + ((rowAt next b).length - i.toNat + 1)) := by
      unfold dmu
      conv => lhs; rw [hw]
      rw [wmu_snoc]
    dsimp only
    cases hi : decide (i < (rowAt next b).length) with
    | false =>
      rw [e1]
      simp only [cond_false, dmu]
      omega
    | true =>
      simp only [decide_eq_true_eq] at hi
      simp only [cond_true]
      refine Nat.lt_of_le_of_lt (dinto_mu h.len) ?_
      rw [e1]
      simp only [dmu, wmu_snoc]
      omega
theorem drun_step {next : List (List Int)} {g : Nat} {s : DS} (hne : s.way ≠ []) : drun next (g + 1) s = drun next g (dstep next s) := by
  have : s.way.isEmpty = false := by simpa using hne
  simp [drun, this]
theorem drun_end {next : List (List Int)} {g : Nat} {s : DS} (h : s.way = []) : drun next g s = s := by
  cases g with
  | zero => rfl
  | succ g => simp [drun, h]
def dstart (been : List Bool) : DS := dinto 0 ⟨been, []⟩
def dreach (next : List (List Int)) (been : List Bool) : List Bool := (drun next (dmu next (dstart been) + 1) (dstart been)).been
def BFunc.reach (f : BFunc) : List Bool := dreach f.nexts (List.replicate f.nexts.length false)
def wcell (p : Int × Int) : List AV := [.int .i64 p.1, .int .i64 p.2]
structure WayIn (n : Nat) (s : DS) (es : List (List AV)) : Prop where
  le : s.way.length ≤ es.length
  eq : es.take s.way.length = s.way.map wcell
  cap : es.length + unb s.been ≤ n
def ies (b : Int) (s : DS) (es : List (List AV)) : List (List AV) := bif notBeen s.been b then pushE es s.way.length (wcell (b, 0)) else es
theorem pushE_length {es : List (List AV)} {len : Nat} {cs : List AV} : (pushE es len cs).length ≤ es.length + 1 := by
  unfold pushE; split <;> simp
theorem WayIn.into {n : Nat} {b : Int} {s : DS} {es : List (List AV)} (h : WayIn n s es) : WayIn n (dinto b s) (ies b s es) := by
  unfold dinto ies
  cases e : notBeen s.been b with
  | false => exact h
  | true =>
    obtain ⟨h1, h2, h3⟩ := notBeen_get e
    have hu := unb_set h3
    simp only [cond_true]
    refine ⟨by simpa using pushE_len h.le, ?_, ?_⟩
    · show (pushE es s.way.length (wcell (b, 0))).take (s.way ++ [(b, 0)]).length = _
      rw [List.length_append]
      simp only [List.length_cons, List.length_nil, List.map_append, List.map_cons, List.map_nil]
      rw [pushE_take h.le, h.eq]
    · have := pushE_length (es := es) (len := s.way.length) (cs := wcell (b, 0))
      have := h.cap
      show (pushE es s.way.length (wcell (b, 0))).length + unb (s.been.set b.toNat true) ≤ n
      omega
theorem WayIn.top {n : Nat} {s : DS} {es : List (List AV)} (h : WayIn n s es) {p : Int × Int} (hp : s.way.getLast? = some p) : es[s.way.length - 1]? = some (wcell p) ∧ 0 < s.way.length := by
  have hw := way_last hp
  have hpos : 0 < s.way.length := by rw [hw]; simp
  have h1 : (es.take s.way.length)[s.way.length - 1]? = es[s.way.length - 1]? := List.getElem?_take_of_lt (by omega)
  rw [← h1, h.eq, List.getElem?_map]
  rw [List.getLast?_eq_getElem?] at hp
  rw [hp]
  exact ⟨rfl, hpos⟩
theorem WayIn.seen {n : Nat} {s : DS} {es : List (List AV)} (h : WayIn n s es) {b i : Int} (hp : s.way.getLast? = some (b, i)) : WayIn n ⟨s.been, s.way.dropLast ++ [(b, i + 1)]⟩ (es.set (s.way.length - 1) (wcell (b, i + 1))) := by
  obtain ⟨h1, h2⟩ := h.top hp
  have hl : (s.way.dropLast ++ [(b, i + 1)]).length = s.way.length := by simp; omega
  have hle := h.le
  refine ⟨by simp only [hl, List.length_set]; exact hle, ?_, by simpa using h.cap⟩
  simp only [hl]
  obtain ⟨m, hm⟩ : ∃ m, s.way.length = m + 1 := ⟨s.way.length - 1, by omega⟩
  rw [hm]
  simp only [Nat.add_sub_cancel]
  have hlt : m < es.length := by omega
  rw [take_succ_eq (List.getElem?_set_self hlt), List.take_set_of_le (Nat.le_refl _), List.map_append]
  congr 1
  have := h.eq
  rw [hm] at this
  have h3 := congrArg List.dropLast this
  rw [List.map_dropLast] 
  rw [← h3, dropLast_take' (by omega)]
  rfl
theorem WayIn.pop {n : Nat} {s : DS} {es : List (List AV)} (h : WayIn n s es) {p : Int × Int} (hp : s.way.getLast? = some p) : WayIn n ⟨s.been, s.way.dropLast⟩ es := by
  obtain ⟨h1, h2⟩ := h.top hp
  have hle := h.le
  refine ⟨by simp only [List.length_dropLast]; omega, ?_, h.cap⟩
  simp only [List.length_dropLast]
  have h3 := congrArg List.dropLast h.eq
  rw [List.map_dropLast, ← h3, dropLast_take' (by omega)]
end Go.Proofs.Ytjmjmedjjbginaa.Sv

namespace Go.Proofs.Ytjmjmedjjbginaa.Sv
open Go
def need (v : Nat) : List Tac → Bool → Bool
  | [], z => z
  | t :: r, z => t.uses.contains (v : Int) || (!(t.sets == (v : Int)) && need v r z)
theorem need_app (v : Nat) (l2 : List Tac) (z : Bool) : ∀ l1, need v (l1 ++ l2) z = need v l1 (need v l2 z)
  | [] => rfl
  | t :: r => by rw [List.cons_append, need, need, need_app v l2 z r]
theorem need_mono {v : Nat} {z z' : Bool} (h : z = true → z' = true) : ∀ {l}, need v l z = true → need v l z' = true
  | [], e => h e
  | t :: r, e => by
    have ih := need_mono (v := v) h (l := r)
    unfold need at e ⊢
    revert e ih
    cases t.uses.contains (v : Int) <;> cases t.sets == (v : Int) <;> simp
theorem need_or (v : Nat) (a b : Bool) : ∀ l, need v l (a || b) = (need v l a || need v l b)
  | [] => rfl
  | t :: r => by
    unfold need
    rw [need_or v a b r]
    cases t.uses.contains (v : Int) <;> cases t.sets == (v : Int) <;> simp
theorem need_cut {v : Nat} {t : Tac} {l1 l2 : List Tac} {z : Bool} (h : t.sets = (v : Int) → need v l2 z = false) (hn : need v (l1 ++ l2) z = true) : need v (l1 ++ t :: l2) z = true := by
  rw [need_app] at hn ⊢
  refine need_mono (fun e => ?_) hn
  unfold need
  cases ht : t.sets == (v : Int) with
  | true => rw [h (by simpa using ht)] at e; cases e
  | false => rw [e]; simp
theorem need_cut' {v : Nat} {t : Tac} {l1 l2 : List Tac} {z : Bool} (h : t.uses.contains (v : Int) = false) (hn : need v (l1 ++ t :: l2) z = true) : need v (l1 ++ l2) z = true := by
  rw [need_app] at hn ⊢
  refine need_mono (fun e => ?_) hn
  unfold need at e
  rw [h] at e
  revert e
  cases t.sets == (v : Int) <;> simp
def endz (x : Block) (v : Nat) : Bool := x.fin == 2 && x.v == (v : Int)
inductive LiveIn (f : BFunc) (v : Nat) : Nat → Prop
  | here {c : Nat} {x : Block} : f.blocks[c]? = some x → need v x.ins (endz x v) = true → LiveIn f v c
  | thru {c : Nat} {d : Int} {x : Block} : f.blocks[c]? = some x → need v x.ins true = true → d ∈ x.nexts → LiveIn f v d.toNat → LiveIn f v c
open Classical in
noncomputable def inB (f : BFunc) (v c : Nat) : Bool := decide (LiveIn f v c)
noncomputable def outB (f : BFunc) (x : Block) (v : Nat) : Bool := x.nexts.any fun d => inB f v d.toNat
noncomputable def endB (f : BFunc) (x : Block) (v : Nat) : Bool := endz x v || outB f x v
theorem inB_iff {f : BFunc} {v c : Nat} : inB f v c = true ↔ LiveIn f v c := by unfold inB; simp
theorem outB_iff {f : BFunc} {x : Block} {v : Nat} : outB f x v = true ↔ ∃ d ∈ x.nexts, LiveIn f v d.toNat := by
  unfold outB
  rw [List.any_eq_true]
  exact ⟨fun ⟨d, h1, h2⟩ => ⟨d, h1, inB_iff.1 h2⟩, fun ⟨d, h1, h2⟩ => ⟨d, h1, inB_iff.2 h2⟩⟩
theorem inB_eq {f : BFunc} {v c : Nat} {x : Block} (hx : f.blocks[c]? = some x) : inB f v c = need v x.ins (endB f x v) := by
  rw [Bool.eq_iff_iff, inB_iff]
  constructor
  · intro h
    cases h with
    | here h1 h2 => rw [hx] at h1; cases h1; exact need_mono (fun e => by unfold endB; rw [e]; rfl) h2
    | thru h1 h2 h3 h4 => rw [hx] at h1; cases h1; exact need_mono (fun _ => by unfold endB; rw [outB_iff.2 ⟨_, h3, h4⟩, Bool.or_true]) h2
  · intro h
    unfold endB at h
    rw [need_or, Bool.or_eq_true] at h
    rcases h with h | h
    · exact .here hx h
    · cases ho : outB f x v with
      | true => rw [ho] at h; obtain ⟨d, h1, h2⟩ := outB_iff.1 ho; exact .thru hx h h1 h2
      | false => rw [ho] at h; exact .here hx (need_mono (fun e => by cases e) h)
theorem live_least {f : BFunc} {v : Nat} {I : Nat → Bool} (hc : ∀ c x, f.blocks[c]? = some x → need v x.ins (endz x v || x.nexts.any fun d => I d.toNat) = true → I c = true) : ∀ {c}, LiveIn f v c → I c = true := by
  intro c h
  induction h with
  | here h1 h2 => exact hc _ _ h1 (need_mono (fun e => by rw [e]; rfl) h2)
  | @thru c d x h1 h2 h3 _ ih => exact hc _ _ h1 (need_mono (fun _ => by rw [List.any_eq_true.2 ⟨d, h3, ih⟩, Bool.or_true]) h2)

def Tac.pure (t : Tac) : Bool := t.op == 1 || (t.op == 2 || (t.op == 4 || (t.op == 3 && (!(t.k == 7) && !(t.k == 8)))))
def Block.mid (x : Block) (l : List Tac) : Block := { x with ins := l }
def BFunc.putB (f : BFunc) (c : Nat) (x : Block) : BFunc := { f with blocks := f.blocks.set c x }
structure CutAt (f g : BFunc) (c : Nat) (x : Block) (l1 : List Tac) (t : Tac) (l2 : List Tac) (v : Nat) : Prop where
  hx : f.blocks[c]? = some x
  hi : x.ins = l1 ++ t :: l2
  pure : t.pure = true
  hv : t.sets = (v : Int)
  dead : need v l2 (endB f x v) = false
  hg : g = f.putB c (x.mid (l1 ++ l2))
def Cut (f g : BFunc) : Prop := ∃ c x l1 t l2 v, CutAt f g c x l1 t l2 v
theorem putB_self {f : BFunc} {c : Nat} {x y : Block} (hx : f.blocks[c]? = some x) : (f.putB c y).blocks[c]? = some y := by
  have hc := (List.getElem?_eq_some_iff.1 hx).1
  exact List.getElem?_set_self hc
theorem putB_ne {f : BFunc} {c d : Nat} {y : Block} (h : c ≠ d) : (f.putB c y).blocks[d]? = f.blocks[d]? := List.getElem?_set_ne h
theorem putB_len (f : BFunc) (c : Nat) (y : Block) : (f.putB c y).blocks.length = f.blocks.length := List.length_set
theorem dead_all {f g : BFunc} {c : Nat} {x : Block} {l1 l2 : List Tac} {t : Tac} {v : Nat} (h : CutAt f g c x l1 t l2 v) {w : Nat} {z : Bool} (hz : z = true → endB f x w = true) : t.sets = (w : Int) → need w l2 z = false := by
  intro e
  have hvw : v = w := by have := h.hv.symm.trans e; omega
  subst hvw
  cases hn : need v l2 z with
  | false => rfl
  | true => exact (h.dead.symm.trans (need_mono hz hn)).symm ▸ rfl
theorem live_down {f g : BFunc} {c : Nat} {x : Block} {l1 l2 : List Tac} {t : Tac} {v : Nat} (h : CutAt f g c x l1 t l2 v) {w d : Nat} (hl : LiveIn g w d) : LiveIn f w d := by
  have hg := h.hg
  induction hl with
  | @here d y h1 h2 =>
    by_cases hcd : c = d
    · subst hcd
      rw [hg, putB_self h.hx] at h1; cases h1
      refine .here h.hx ?_
      rw [h.hi]
      exact need_cut (dead_all h (fun e => by unfold endB; rw [show endz x w = true from e]; rfl)) h2
    · rw [hg, putB_ne hcd] at h1
      exact .here h1 h2
  | @thru d e y h1 h2 h3 h4 ih =>
    by_cases hcd : c = d
    · subst hcd
      rw [hg, putB_self h.hx] at h1; cases h1
      refine .thru h.hx ?_ h3 ih
      rw [h.hi]
      have h3' : e ∈ x.nexts := h3
      exact need_cut (dead_all h (fun _ => by unfold endB; rw [outB_iff.2 ⟨_, h3', ih⟩, Bool.or_true])) h2
    · rw [hg, putB_ne hcd] at h1
      exact .thru h1 h2 h3 ih
theorem live_up {f g : BFunc} {c : Nat} {x : Block} {l1 l2 : List Tac} {t : Tac} {v : Nat} (h : CutAt f g c x l1 t l2 v) {w d : Nat} (hw : t.uses.contains (w : Int) = false) (hl : LiveIn f w d) : LiveIn g w d := by
  have hg := h.hg
  induction hl with
  | @here d y h1 h2 =>
    by_cases hcd : c = d
    · subst hcd
      rw [h.hx] at h1; cases h1
      rw [h.hi] at h2
      exact .here (x := x.mid (l1 ++ l2)) (by rw [hg]; exact putB_self h.hx) (need_cut' hw h2)
    · exact .here (by rw [hg, putB_ne hcd]; exact h1) h2
  | @thru d e y h1 h2 h3 h4 ih =>
    by_cases hcd : c = d
    · subst hcd
      rw [h.hx] at h1; cases h1
      rw [h.hi] at h2
      exact .thru (x := x.mid (l1 ++ l2)) (by rw [hg]; exact putB_self h.hx) (need_cut' hw h2) h3 ih
    · exact .thru (by rw [hg, putB_ne hcd]; exact h1) h2 h3 ih
theorem endB_down {f g : BFunc} {c : Nat} {x : Block} {l1 l2 : List Tac} {t : Tac} {v : Nat} (h : CutAt f g c x l1 t l2 v) {y y' : Block} (hy : y'.fin = y.fin ∧ y'.v = y.v ∧ y'.nexts = y.nexts) {w : Nat} (e : endB g y' w = true) : endB f y w = true := by
  unfold endB endz at e ⊢
  rw [hy.1, hy.2.1] at e
  rw [Bool.or_eq_true] at e ⊢
  rcases e with e | e
  · exact .inl e
  · obtain ⟨d, h1, h2⟩ := outB_iff.1 e
    exact .inr (outB_iff.2 ⟨d, hy.2.2 ▸ h1, live_down h h2⟩)
theorem endB_up {f g : BFunc} {c : Nat} {x : Block} {l1 l2 : List Tac} {t : Tac} {v : Nat} (h : CutAt f g c x l1 t l2 v) {y y' : Block} (hy : y'.fin = y.fin ∧ y'.v = y.v ∧ y'.nexts = y.nexts) {w : Nat} (hw : t.uses.contains (w : Int) = false) (e : endB f y w = true) : endB g y' w = true := by
  unfold endB endz at e ⊢
  rw [hy.1, hy.2.1]
  rw [Bool.or_eq_true] at e ⊢
  rcases e with e | e
  · exact .inl e
  · obtain ⟨d, h1, h2⟩ := outB_iff.1 e
    exact .inr (outB_iff.2 ⟨d, hy.2.2 ▸ h1, live_up h hw h2⟩)
theorem mid_same (x : Block) (l : List Tac) : (x.mid l).fin = x.fin ∧ (x.mid l).v = x.v ∧ (x.mid l).nexts = x.nexts := ⟨rfl, rfl, rfl⟩
theorem false_of {a b : Bool} (h : a = true → b = true) (hb : b = false) : a = false := by cases a with | false => rfl | true => rw [h rfl] at hb; cases hb
theorem cut_other {f g1 g2 : BFunc} {c1 c2 : Nat} {x1 x2 : Block} {l1 l2 m1 m2 : List Tac} {t u : Tac} {v w : Nat} (h1 : CutAt f g1 c1 x1 l1 t l2 v) (h2 : CutAt f g2 c2 x2 m1 u m2 w) (hne : c1 ≠ c2) :
    CutAt g1 (g1.putB c2 (x2.mid (m1 ++ m2))) c2 x2 m1 u m2 w where
  hx := by rw [h1.hg, putB_ne hne]; exact h2.hx
  hi := h2.hi
  pure := h2.pure
  hv := h2.hv
  dead := false_of (need_mono (endB_down h1 ⟨rfl, rfl, rfl⟩)) h2.dead
  hg := rfl
theorem cut_behind {f g1 g2 : BFunc} {c : Nat} {x : Block} {l1 k m2 : List Tac} {t u : Tac} {v w : Nat} (h1 : CutAt f g1 c x l1 t (k ++ u :: m2) v) (h2 : CutAt f g2 c x (l1 ++ t :: k) u m2 w) :
    CutAt g1 (f.putB c (x.mid (l1 ++ k ++ m2))) c (x.mid (l1 ++ (k ++ u :: m2))) (l1 ++ k) u m2 w ∧ CutAt g2 (f.putB c (x.mid (l1 ++ k ++ m2))) c (x.mid ((l1 ++ t :: k) ++ m2)) l1 t (k ++ m2) v := by
  have hpp : ∀ (y z : Block), (f.putB c y).putB c z = f.putB c z := fun y z => by unfold BFunc.putB; rw [List.set_set]
  constructor
  · exact { hx := by rw [h1.hg]; exact putB_self h1.hx, hi := by simp [Block.mid], pure := h2.pure, hv := h2.hv, dead := false_of (need_mono (endB_down h1 (mid_same _ _))) h2.dead, hg := by rw [h1.hg, hpp]; rfl }
  · refine { hx := by rw [h2.hg]; exact putB_self h1.hx, hi := by simp [Block.mid], pure := h1.pure, hv := h1.hv, dead := ?_, hg := by rw [h2.hg, hpp]; simp [Block.mid] }
    refine false_of (fun e => ?_) h1.dead
    exact need_cut (dead_all h2 (fun e => e)) (need_mono (endB_down h2 (mid_same _ _)) e)
theorem cut_diamond {f g1 g2 : BFunc} (h1 : Cut f g1) (h2 : Cut f g2) : g1 = g2 ∨ ∃ h, Cut g1 h ∧ Cut g2 h := by
  obtain ⟨c1, x1, l1, t, l2, v, h1⟩ := h1
  obtain ⟨c2, x2, m1, u, m2, w, h2⟩ := h2
  by_cases hc : c1 = c2
  · subst hc
    have hx := h1.hx.symm.trans h2.hx; cases hx
    have he := h1.hi.symm.trans h2.hi
    rcases List.append_eq_append_iff.1 he with ⟨k, hk1, hk2⟩ | ⟨k, hk1, hk2⟩
    · cases k with
      | nil =>
        simp only [List.append_nil, List.nil_append, List.cons.injEq] at hk1 hk2
        obtain ⟨e1, e2⟩ := hk2; subst e1; subst e2; subst hk1
        exact .inl (h1.hg.trans h2.hg.symm)
      | cons a k =>
        simp only [List.cons_append, List.cons.injEq] at hk2
        obtain ⟨e1, e2⟩ := hk2; subst e1; subst e2; subst hk1
        have := cut_behind h1 h2
        exact .inr ⟨_, ⟨_, _, _, _, _, _, this.1⟩, ⟨_, _, _, _, _, _, this.2⟩⟩
    · cases k with
      | nil =>
        simp only [List.append_nil, List.nil_append, List.cons.injEq] at hk1 hk2
        obtain ⟨e1, e2⟩ := hk2; subst e1; subst e2; subst hk1
        exact .inl (h1.hg.trans h2.hg.symm)
      | cons a k =>
        simp only [List.cons_append, List.cons.injEq] at hk2
        obtain ⟨e1, e2⟩ := hk2; subst e1; subst e2; subst hk1
        have := cut_behind h2 h1
        exact .inr ⟨_, ⟨_, _, _, _, _, _, this.2⟩, ⟨_, _, _, _, _, _, this.1⟩⟩
  · have a1 := cut_other h1 h2 hc
    have a2 := cut_other h2 h1 (Ne.symm hc)
    refine .inr ⟨_, ⟨_, _, _, _, _, _, a1⟩, ?_⟩
    have e : g1.putB c2 (x2.mid (m1 ++ m2)) = g2.putB c1 (x1.mid (l1 ++ l2)) := by
      rw [h1.hg, h2.hg]; unfold BFunc.putB; simp only; rw [List.set_comm _ _ hc]
    rw [e]
    exact ⟨_, _, _, _, _, _, a2⟩
def isz (f : BFunc) : Nat := (f.blocks.map fun x => x.ins.length).sum
theorem sum_set {α : Type} {p : α → Nat} {y : α} : ∀ {l : List α} {c : Nat} {x : α}, l[c]? = some x → ((l.set c y).map p).sum + p x = (l.map p).sum + p y
  | [], c, x, h => by simp at h
  | a :: l, 0, x, h => by simp at h; subst h; simp; omega
  | a :: l, c + 1, x, h => by
    have ih := sum_set (p := p) (y := y) (l := l) (c := c) (x := x) (by simpa using h)
    simp only [List.set_cons_succ, List.map_cons, List.sum_cons]
    omega
theorem cut_isz {f g : BFunc} (h : Cut f g) : isz g + 1 = isz f := by
  obtain ⟨c, x, l1, t, l2, v, h⟩ := h
  have := sum_set (p := fun (x : Block) => x.ins.length) (y := x.mid (l1 ++ l2)) h.hx
  have hl := congrArg List.length h.hi
  rw [h.hg]
  unfold isz BFunc.putB
  simp only [Block.mid, List.length_append, List.length_cons] at this hl ⊢
  omega
inductive Cuts : BFunc → BFunc → Prop
  | refl (f : BFunc) : Cuts f f
  | step {f g h : BFunc} : Cut f g → Cuts g h → Cuts f h
theorem Cuts.trans {f g h : BFunc} (h1 : Cuts f g) (h2 : Cuts g h) : Cuts f h := by
  induction h1 with
  | refl => exact h2
  | step a _ ih => exact .step a (ih h2)
theorem Cuts.one {f g : BFunc} (h : Cut f g) : Cuts f g := .step h (.refl g)
def Clean (f : BFunc) : Prop := ∀ g, ¬ Cut f g
theorem cuts_clean : ∀ (n : Nat) (f : BFunc), isz f ≤ n → ∃ g, Cuts f g ∧ Clean g
  | 0, f, h => ⟨f, .refl f, fun g hg => by have := cut_isz hg; omega⟩
  | n + 1, f, h => by
    by_cases hc : Clean f
    · exact ⟨f, .refl f, hc⟩
    · have ⟨g, hg⟩ : ∃ g, Cut f g := Classical.not_forall_not.1 hc
      obtain ⟨k, h1, h2⟩ := cuts_clean n g (by have := cut_isz hg; omega)
      exact ⟨k, .step hg h1, h2⟩
theorem clean_unique : ∀ (n : Nat) (f : BFunc), isz f ≤ n → ∀ {g h}, Cuts f g → Clean g → Cuts f h → Clean h → g = h := by
  intro n
  induction n with
  | zero =>
    intro f hn g h h1 c1 h2 c2
    cases h1 with
    | step a _ => have := cut_isz a; omega
    | refl =>
      cases h2 with
      | refl => rfl
      | step a _ => have := cut_isz a; omega
  | succ n ih =>
    intro f hn g h h1 c1 h2 c2
    cases h1 with
    | refl =>
      cases h2 with
      | refl => rfl
      | step a _ => exact absurd a (c1 _)
    | @step _ g' _ a1 b1 =>
      cases h2 with
      | refl => exact absurd a1 (c2 _)
      | @step _ h' _ a2 b2 =>
        have i1 := cut_isz a1
        have i2 := cut_isz a2
        rcases cut_diamond a1 a2 with e | ⟨k, k1, k2⟩
        · subst e
          exact ih g' (by omega) b1 c1 b2 c2
        · obtain ⟨m, m1, m2⟩ := cuts_clean _ k (Nat.le_refl _)
          exact (ih g' (by omega) b1 c1 (.step k1 m1) m2).trans (ih h' (by omega) (.step k2 m1) m2 b2 c2)
theorem dnf_ex (f : BFunc) : ∃ g, Cuts f g ∧ Clean g := cuts_clean _ f (Nat.le_refl _)
noncomputable def dnf (f : BFunc) : BFunc := Classical.choose (dnf_ex f)
theorem dnf_cuts (f : BFunc) : Cuts f (dnf f) := (Classical.choose_spec (dnf_ex f)).1
theorem dnf_clean (f : BFunc) : Clean (dnf f) := (Classical.choose_spec (dnf_ex f)).2
theorem dnf_eq {f g : BFunc} (h1 : Cuts f g) (h2 : Clean g) : g = dnf f := clean_unique _ f (Nat.le_refl _) h1 h2 (dnf_cuts f) (dnf_clean f)
theorem dnf_self {f : BFunc} (h : Clean f) : dnf f = f := (dnf_eq (.refl f) h).symm
end Go.Proofs.Ytjmjmedjjbginaa.Sv

namespace Go.Proofs.Ytjmjmedjjbginaa.Sv
open Go
end Go.Proofs.Ytjmjmedjjbginaa.Sv

namespace Go.Proofs.Ytjmjmedjjbginaa.Sv
open Go

theorem wrapN_i64 {n : Nat} (h : n < 9223372036854775808) : IntKind.i64.wrap (n : Int) = (n : Int) := wrap_i64 (by omega) (by omega)
theorem wrapN_u64 {n : Nat} (h : n < 18446744073709551616) : IntKind.u64.wrap (n : Int) = (n : Int) := by
  rw [IntKind.wrap_u64]; omega
theorem ebin_rem {k : IntKind} {a b : Nat} (hb : 0 < b) : evalBin .rem (.int k (a : Int)) (.int k (b : Int)) = some (.int k ((a % b : Nat) : Int)) := by
  have h0 : ¬ (b : Int) = 0 := by omega
  simp only [evalBin, evalInt, isShift, cond_false, if_true, if_neg h0]
  rw [Int.tmod_eq_emod_of_nonneg (by omega), Int.natCast_emod]
theorem ebin_quo {k : IntKind} {a b : Nat} (hb : 0 < b) (hw : k.wrap ((a / b : Nat) : Int) = ((a / b : Nat) : Int)) : evalBin .quo (.int k (a : Int)) (.int k (b : Int)) = some (.int k ((a / b : Nat) : Int)) := by
  have h0 : ¬ (b : Int) = 0 := by omega
  simp only [evalBin, evalInt, isShift, cond_false, if_true, if_neg h0]
  rw [Int.tdiv_eq_ediv_of_nonneg (by omega), ← Int.natCast_ediv, hw]
theorem ebin_add {k : IntKind} {a b : Nat} (hw : k.wrap ((a + b : Nat) : Int) = ((a + b : Nat) : Int)) : evalBin .add (.int k (a : Int)) (.int k (b : Int)) = some (.int k ((a + b : Nat) : Int)) := by
  simp only [evalBin, evalInt, isShift, cond_false, if_true]
  rw [← Int.natCast_add, hw]
section
variable {P : Program} {T : Nat → Option TyI} {o : Oper} {e : AEnv} {h : AHeap}
end
end Go.Proofs.Ytjmjmedjjbginaa.Sv

namespace Go.Proofs.Ytjmjmedjjbginaa.Sv
open Go
def alone (f : BFunc) (x : Block) : BFunc := ⟨f.regs, [⟨x.ins, 3, 0, 0, 0⟩]⟩
end Go.Proofs.Ytjmjmedjjbginaa.Sv

namespace Go.Proofs.Ytjmjmedjjbginaa.Sv
open Go

end Go.Proofs.Ytjmjmedjjbginaa.Sv

namespace Go.Proofs.Ytjmjmedjjbginaa.Sv
open Go
end Go.Proofs.Ytjmjmedjjbginaa.Sv

namespace Go.Proofs.Ytjmjmedjjbginaa.Sv
open Go
def Tac.inR (t : Tac) (regs : Int) : Prop := (setsOp t.op = true → 0 ≤ t.d ∧ t.d < regs) ∧ ∀ u ∈ t.uses, 0 ≤ u ∧ u < regs
theorem fits_inR {t : Tac} {f regs words : Int} (h : t.fits f regs words = true) : t.inR regs := by
  simp only [Tac.fits, Bool.and_eq_true, Bool.or_eq_true, Bool.not_eq_true', List.all_eq_true, within, decide_eq_true_eq] at h
  refine ⟨fun hs => ?_, fun u hu => h.2.2.2.1 u hu⟩
  rcases h.2.2.1 with h | h
  · rw [hs] at h; cases h
  · exact h
end Go.Proofs.Ytjmjmedjjbginaa.Sv

namespace Go.Proofs.Ytjmjmedjjbginaa.Sv
open Go

def byteCells (l : List UInt8) : List (List AV) := l.map fun b => [AV.int .u8 b.toNat]
theorem push_bytes : ∀ (l : List UInt8) (s : ByteArray), (l.map (fun b : UInt8 => ((b.toNat : Nat) : Int))).foldl (fun r n => r.push (UInt8.ofNat n.toNat)) s = ⟨s.data ++ l.toArray⟩
  | [], s => by simp
  | b :: r, s => by
    simp only [List.map_cons, List.foldl_cons, Int.toNat_natCast, UInt8.ofNat_toNat]
    rw [push_bytes r]
    show ByteArray.mk (s.data.push b ++ r.toArray) = _
    congr 1
    apply Array.toList_inj.1
    simp
theorem push_all (l : List UInt8) : (l.map (fun b : UInt8 => ((b.toNat : Nat) : Int))).foldl (fun r n => r.push (UInt8.ofNat n.toNat)) ByteArray.empty = ⟨l.toArray⟩ := by
  rw [push_bytes]
  show ByteArray.mk (#[] ++ l.toArray) = _
  simp
section
variable {P : Program} {T : Nat → Option TyI} {o : Oper} {e : AEnv} {h : AHeap}
theorem q_bytesStr (hT : TOk P T) {t u : TypeId} {x : Operand} {l : List UInt8} {ex : Bool} {i j k : TyI} {v : Nat} (ho : o.op = .convert t u x) (hx : look e x = some (.lst ex (byteCells l))) (hi : T t = some i) (hik : i.k = .slice v) (hv : T v = some k) (hk : k.k = .int .u8) (hj : T u = some j) (hjk : j.k = .string) :
    QLoc P o e h [] (.str ⟨l.toArray⟩) := by
  intro H ι a w s hs g1 g2
  have hx' : look s.env x = some (.lst ex (byteCells l)) := by rw [g1 x (by rw [ho]; simp [Op.operands]), hx]
  obtain ⟨info, d, e1, e2, e3, e4, e5, e6⟩ := tyOf_spec (hT _ _ hi)
  obtain ⟨info', d', e1', e2', e3', e4', e5', e6'⟩ := tyOf_spec (hT _ _ hj)
  obtain ⟨info'', d'', e1'', e2'', e3'', e4'', e5'', e6''⟩ := tyOf_spec (hT _ _ hv)
  have hd := tk_slice (P := P) (d := d) (e3 ▸ hik)
  subst hd
  have hd := tk_string (P := P) (d := d') (e3' ▸ hjk)
  subst hd
  have hd := tk_int (P := P) (d := d'') (e3'' ▸ hk)
  subst hd
  have hvx := look_rel hs hx'
  generalize hva : a.eval x = va at hvx
  refine ⟨_, .str _ _, ?_⟩
  simp only [execOp, ho, hva, Sem.run_bind]
  have key : (Go.convert t u va).run P w = .ok (.string ⟨l.toArray⟩) w := by
    rcases hvx.lst_inv with ⟨hl, ad, cap, rfl, h1, h2, h3, h4⟩ | ⟨hne, b, off, cap, sz, c, vals, rfl, hb, hsz', hv', hr, hc1, hex, hcap, hmax⟩
    · have hl0 : l = [] := by simpa [byteCells] using hl
      subst hl0
      cases ad with
      | none => simp [Go.convert, run_underlying' e2, run_underlying' e2', run_underlying' e2'', Conv.bytesToString, Sem.run_pure]; rfl
      | some ad =>
        rw [run_convert_bytes_string w t u v (some ad) 0 cap e2 e2'' e2']
        rw [run_bytesToString w ad 0 cap [] (by simpa using run_loadCells (P := P) (w := w) ad 0 (fun _ => undef) (fun j hj => by omega))]
        rfl
    · rw [run_convert_bytes_string w t u v (some ⟨b, off, none⟩) (byteCells l).length cap e2 e2'' e2']
      obtain ⟨TT, fr, hbw⟩ := hs.heap.know b c hb
      have hlen : (byteCells l).length = l.length := by simp [byteCells]
      rw [run_bytesToString w _ _ cap (l.map (fun b : UInt8 => ((b.toNat : Nat) : Int))) ?_, push_all]
      have hld := run_loadCells_list (P := P) (w := w) ⟨b, off, none⟩ (l.map (fun b : UInt8 => Value.int .u8 b.toNat)) (fun j y hj => by
        rw [List.getElem?_map] at hj
        cases hlj : l[j]? with
        | none => rw [hlj] at hj; cases hj
        | some n =>
          rw [hlj] at hj
          cases hj
          have hbc : (byteCells l)[j]? = some [AV.int .u8 n.toNat] := by simp [byteCells, hlj]
          have hsz : sz = 1 := (hsz' j _ hbc).symm
          subst hsz
          have q1 := hv' j _ 0 _ hbc rfl
          have q2 := (hr j _ 0 _ hbc rfl).int_inv
          rw [add_mk, cell_row hbw]
          rw [q2, Nat.mul_one, Nat.add_zero] at q1
          exact q1)
      rw [hlen]
      simpa [List.map_map, Function.comp_def] using hld
  simp only [key, Result.andThen_ok, Sem.run_pure]
end
end Go.Proofs.Ytjmjmedjjbginaa.Sv

namespace Go.Proofs.Ytjmjmedjjbginaa.Sv
open Go

structure Mach where
  words : List Int
  out : List UInt8
  read : Nat
  steps : Nat
  fin : Int
def rget (l : List Int) (z : Int) : Int := (l[z.toNat]?).getD 0
def rset (l : List Int) (z v : Int) : List Int := l.set z.toNat v
def byteOf (n : Int) : UInt8 := UInt8.ofNat n.toNat
def inAt (s : ByteArray) (i : Nat) : UInt8 := (s.data.toList[i]?).getD 0
def mstep (fuel : Int) (m : Mach) : Bool × Mach := bif decide ((m.steps : Int) ≥ fuel) then (false, { m with fin := 5 }) else (true, { m with steps := m.steps + 1 })
def mone (call : Int → Mach → Mach) (s : ByteArray) (t : Tac) (regs : List Int) (m : Mach) : List Int × Mach :=
  bif t.op == 1 then (rset regs t.d t.n, m)
  else bif t.op == 2 then (rset regs t.d (rget regs t.a), m)
  else bif t.op == 3 then
    (bif (wapp t.k (rget regs t.a) (rget regs t.b)).2 == 0 then (rset regs t.d (wapp t.k (rget regs t.a) (rget regs t.b)).1, m) else (regs, { m with fin := 2 }))
  else bif t.op == 4 then (rset regs t.d (rget m.words t.base), m)
  else bif t.op == 5 then (regs, { m with words := rset m.words t.base (rget regs t.a) })
  else bif t.op == 6 then (bif decide (rget regs t.a ≥ t.size) then (regs, { m with fin := 3 }) else (rset regs t.d (rget m.words (t.base + rget regs t.a)), m))
  else bif t.op == 7 then (bif decide (rget regs t.a ≥ t.size) then (regs, { m with fin := 3 }) else (regs, { m with words := rset m.words (t.base + rget regs t.a) (rget regs t.b) }))
  else bif t.op == 8 then (bif decide (m.read < s.size) then (rset regs t.d ((inAt s m.read).toNat : Int), { m with read := m.read + 1 }) else (rset regs t.d 256, m))
  else bif t.op == 9 then (bif decide (m.out.length ≥ 65536) then (regs, { m with fin := 4 }) else (regs, { m with out := m.out ++ [byteOf (rget regs t.a)] }))
  else bif t.op == 10 then (regs, call t.base m)
  else (regs, m)
def mins (call : Int → Mach → Mach) (s : ByteArray) (fuel : Int) : List Tac → List Int → Mach → Bool × List Int × Mach
  | [], regs, m => (true, regs, m)
  | t :: r, regs, m =>
    bif (mstep fuel m).1 then
      (bif (mone call s t regs (mstep fuel m).2).2.fin == 0 then mins call s fuel r (mone call s t regs (mstep fuel m).2).1 (mone call s t regs (mstep fuel m).2).2
       else (false, mone call s t regs (mstep fuel m).2))
    else (false, regs, (mstep fuel m).2)
def Block.next (k : Block) (regs : List Int) : Int := bif k.fin == 2 && rget regs k.v == 0 then k.els else k.to
def mblk (call : Int → Mach → Mach) (s : ByteArray) (fuel : Int) (f : BFunc) : Nat → Int → List Int → Mach → Mach
  | 0, _, _, m => m
  | g + 1, i, regs, m =>
    match f.blocks[i.toNat]? with
    | none => m
    | some k =>
      let p := mins call s fuel k.ins regs m
      bif p.1 then
        (bif (mstep fuel p.2.2).1 && !(k.fin == 3) then mblk call s fuel f g (k.next p.2.1) p.2.1 (mstep fuel p.2.2).2 else (mstep fuel p.2.2).2)
      else p.2.2
def mfun (b : Blocks) (s : ByteArray) (fuel : Int) : Nat → Int → Mach → Mach
  | 0, _, m => m
  | n + 1, i, m =>
    match b.funcs[i.toNat]? with
    | none => m
    | some f => mblk (mfun b s fuel n) s fuel f (fuel.toNat + 1) 0 (List.replicate f.regs.toNat 0) m
def m0 (b : Blocks) : Mach := ⟨List.replicate b.words.toNat 0, [], 0, 0, 0⟩
def fuel0 (fuel : Int) : Int := bif decide (fuel < 0) then 0 else fuel
def mrun (b : Blocks) (s : ByteArray) (fuel : Int) : Mach :=
  let m := mfun b s (fuel0 fuel) b.funcs.length ((b.funcs.length : Int) - 1) (m0 b)
  bif m.fin == 0 then { m with fin := 1 } else m
def resCells (m : Mach) : List AV := [.int .i64 m.fin, .str ⟨m.out.toArray⟩, .int .i64 m.steps]
def regCells (l : List Int) : List (List AV) := l.map fun n => [AV.int .u32 n]
def allR (l : List Int) : Prop := ∀ v ∈ l, isW v
theorem rget_w {l : List Int} (h : allR l) (z : Int) : isW (rget l z) := by
  unfold rget
  cases e : l[z.toNat]? with
  | none => exact isW_zero
  | some v => exact h v (List.mem_of_getElem? e)
theorem rset_w {l : List Int} (h : allR l) (z : Int) {v : Int} (hv : isW v) : allR (rset l z v) := fun u hu => by
  unfold rset at hu
  rcases List.mem_or_eq_of_mem_set hu with hu | rfl
  · exact h u hu
  · exact hv
theorem rset_length (l : List Int) (z v : Int) : (rset l z v).length = l.length := by simp [rset]
theorem byte_w (c : UInt8) : isW ((c.toNat : Nat) : Int) := by
  have : c.toNat < 256 := UInt8.toNat_lt c
  constructor <;> omega
structure Mach.good (W : Nat) (m : Mach) : Prop where
  len : m.words.length = W
  words : allR m.words
  out : m.out.length ≤ 65536
theorem mstep_good {fuel : Int} {m : Mach} {W : Nat} (h : m.good W) : (mstep fuel m).2.good W := by
  unfold mstep
  cases decide ((m.steps : Int) ≥ fuel) <;> exact ⟨h.1, h.2, h.3⟩
theorem mstep_steps (fuel : Int) (m : Mach) : m.steps ≤ (mstep fuel m).2.steps := by
  unfold mstep
  cases decide ((m.steps : Int) ≥ fuel) <;> simp
theorem mone_good {call : Int → Mach → Mach} {s : ByteArray} {W : Nat} (hc : ∀ i m, m.good W → (call i m).good W) (t : Tac) (ht : isW t.n) {regs : List Int} {m : Mach} (hr : allR regs) (h : m.good W) :
    allR (mone call s t regs m).1 ∧ (mone call s t regs m).1.length = regs.length ∧ (mone call s t regs m).2.good W := by
  have ha := rget_w hr t.a
  have hb := rget_w hr t.b
  unfold mone
  cases t.op == 1 with
  | true => exact ⟨rset_w hr _ ht, rset_length _ _ _, h⟩
  | false =>
  cases t.op == 2 with
  | true => exact ⟨rset_w hr _ ha, rset_length _ _ _, h⟩
  | false =>
  cases t.op == 3 with
  | true =>
    simp only [cond_true, cond_false]
    cases (wapp t.k (rget regs t.a) (rget regs t.b)).2 == 0 with
    | true => exact ⟨rset_w hr _ (wapp_word ha hb), rset_length _ _ _, h⟩
    | false => exact ⟨hr, rfl, ⟨h.1, h.2, h.3⟩⟩
  | false =>
  cases t.op == 4 with
  | true => exact ⟨rset_w hr _ (rget_w h.2 _), rset_length _ _ _, h⟩
  | false =>
  cases t.op == 5 with
  | true => exact ⟨hr, rfl, ⟨by simp only [cond_true, cond_false]; rw [rset_length]; exact h.1, rset_w h.2 _ ha, h.3⟩⟩
  | false =>
  cases t.op == 6 with
  | true =>
    simp only [cond_true, cond_false]
    cases decide (rget regs t.a ≥ t.size) with
    | true => exact ⟨hr, rfl, ⟨h.1, h.2, h.3⟩⟩
    | false => exact ⟨rset_w hr _ (rget_w h.2 _), rset_length _ _ _, h⟩
  | false =>
  cases t.op == 7 with
  | true =>
    simp only [cond_true, cond_false]
    cases decide (rget regs t.a ≥ t.size) with
    | true => exact ⟨hr, rfl, ⟨h.1, h.2, h.3⟩⟩
    | false => exact ⟨hr, rfl, ⟨by simp only [cond_false]; rw [rset_length]; exact h.1, rset_w h.2 _ hb, h.3⟩⟩
  | false =>
  cases t.op == 8 with
  | true =>
    simp only [cond_true, cond_false]
    cases decide (m.read < s.size) with
    | true => exact ⟨rset_w hr _ (byte_w _), rset_length _ _ _, ⟨h.1, h.2, h.3⟩⟩
    | false => exact ⟨rset_w hr _ ⟨by omega, by omega⟩, rset_length _ _ _, h⟩
  | false =>
  cases t.op == 9 with
  | true =>
    simp only [cond_true, cond_false]
    cases e : decide (m.out.length ≥ 65536) with
    | true => exact ⟨hr, rfl, ⟨h.1, h.2, h.3⟩⟩
    | false =>
      refine ⟨hr, rfl, ⟨h.1, h.2, ?_⟩⟩
      simp only [cond_false, List.length_append, List.length_cons, List.length_nil]
      simp at e; omega
  | false =>
  cases t.op == 10 with
  | true => exact ⟨hr, rfl, hc _ _ h⟩
  | false => exact ⟨hr, rfl, h⟩
theorem mone_steps {call : Int → Mach → Mach} {s : ByteArray} (hc : ∀ i m, m.steps ≤ (call i m).steps) (t : Tac) (regs : List Int) (m : Mach) : m.steps ≤ (mone call s t regs m).2.steps := by
  unfold mone
  cases t.op == 1 with
  | true => exact Nat.le_refl _
  | false =>
  cases t.op == 2 with
  | true => exact Nat.le_refl _
  | false =>
  cases t.op == 3 with
  | true =>
    simp only [cond_true, cond_false]
    cases (wapp t.k (rget regs t.a) (rget regs t.b)).2 == 0 <;> exact Nat.le_refl _
  | false =>
  cases t.op == 4 with
  | true => exact Nat.le_refl _
  | false =>
  cases t.op == 5 with
  | true => exact Nat.le_refl _
  | false =>
  cases t.op == 6 with
  | true =>
    simp only [cond_true, cond_false]
    cases decide (rget regs t.a ≥ t.size) <;> exact Nat.le_refl _
  | false =>
  cases t.op == 7 with
  | true =>
    simp only [cond_true, cond_false]
    cases decide (rget regs t.a ≥ t.size) <;> exact Nat.le_refl _
  | false =>
  cases t.op == 8 with
  | true =>
    simp only [cond_true, cond_false]
    cases decide (m.read < s.size) <;> exact Nat.le_refl _
  | false =>
  cases t.op == 9 with
  | true =>
    simp only [cond_true, cond_false]
    cases e : decide (m.out.length ≥ 65536) <;> exact Nat.le_refl _
  | false =>
  cases t.op == 10 with
  | true => exact hc _ _
  | false => exact Nat.le_refl _
theorem mins_steps {call : Int → Mach → Mach} {s : ByteArray} {fuel : Int} (hc : ∀ i m, m.steps ≤ (call i m).steps) : ∀ (l : List Tac) (regs : List Int) (m : Mach), m.steps ≤ (mins call s fuel l regs m).2.2.steps
  | [], _, _ => Nat.le_refl _
  | t :: r, regs, m => by
    have h1 := mstep_steps fuel m
    have h2 := mone_steps (s := s) hc t regs (mstep fuel m).2
    unfold mins
    cases (mstep fuel m).1 with
    | false => exact h1
    | true =>
      simp only [cond_true]
      cases (mone call s t regs (mstep fuel m).2).2.fin == 0 with
      | false => exact Nat.le_trans h1 h2
      | true => exact Nat.le_trans (Nat.le_trans h1 h2) (mins_steps hc r _ _)
theorem mblk_steps {call : Int → Mach → Mach} {s : ByteArray} {fuel : Int} (hc : ∀ i m, m.steps ≤ (call i m).steps) {f : BFunc} : ∀ (g : Nat) (i : Int) (regs : List Int) (m : Mach), m.steps ≤ (mblk call s fuel f g i regs m).steps
  | 0, _, _, _ => Nat.le_refl _
  | g + 1, i, regs, m => by
    unfold mblk
    split
    · exact Nat.le_refl _
    · rename_i k hk
      have h2 := mins_steps (s := s) (fuel := fuel) hc k.ins regs m
      have h3 := mstep_steps fuel (mins call s fuel k.ins regs m).2.2
      dsimp only
      cases (mins call s fuel k.ins regs m).1 with
      | false => exact h2
      | true =>
        simp only [cond_true]
        cases (mstep fuel (mins call s fuel k.ins regs m).2.2).1 && !(k.fin == 3) with
        | false => exact Nat.le_trans h2 h3
        | true => exact Nat.le_trans (Nat.le_trans h2 h3) (mblk_steps hc g _ _ _)
theorem allR_rep (n : Nat) : allR (List.replicate n 0) := fun v hv => by
  rw [List.eq_of_mem_replicate hv]; exact isW_zero
def Blocks.insW (b : Blocks) : Prop := ∀ f ∈ b.funcs, ∀ x ∈ f.blocks, Sv.insW x.ins
theorem mfun_steps {b : Blocks} {s : ByteArray} {fuel : Int} : ∀ (n : Nat) (i : Int) (m : Mach), m.steps ≤ (mfun b s fuel n i m).steps
  | 0, _, _ => Nat.le_refl _
  | n + 1, i, m => by
    unfold mfun
    split
    · exact Nat.le_refl _
    · exact mblk_steps (fun i m => mfun_steps n i m) _ _ _ _
end Go.Proofs.Ytjmjmedjjbginaa.Sv

namespace Go.Proofs.Ytjmjmedjjbginaa.Sv
open Go

theorem regCells_len (l : List Int) : (regCells l).length = l.length := by simp [regCells]
theorem regCells_rep (n : Nat) : List.replicate n [AV.int .u32 0] = regCells (List.replicate n 0) := by simp [regCells]
theorem rcell {l : List Int} {z : Int} (h : 0 ≤ z ∧ z < l.length) : (regCells l)[0 + z.toNat]? = some [AV.int .u32 (rget l z)] := by
  obtain ⟨v, hv⟩ := get_of_lt (l := l) (k := z.toNat) (by omega)
  rw [Nat.zero_add, regCells, List.getElem?_map, hv, rget, hv]; rfl
theorem rcell_set (l : List Int) (z v : Int) : (regCells l).set (0 + z.toNat) [AV.int .u32 v] = regCells (rset l z v) := by
  rw [Nat.zero_add, regCells, regCells, rset, List.map_set]
theorem inAt_get {s : ByteArray} {i : Nat} (h : i < s.size) : s.data.toList[i]? = some (inAt s i) := by
  obtain ⟨v, hv⟩ := get_of_lt (l := s.data.toList) (k := i) (by simpa using h)
  rw [inAt, hv]; rfl
theorem wrap_byte {n : Int} (h : isW n) : IntKind.u8.wrap n = (((byteOf n).toNat : Nat) : Int) := by
  obtain ⟨h1, h2⟩ := h
  obtain ⟨k, rfl⟩ := Int.eq_ofNat_of_zero_le h1
  rw [IntKind.wrap_u8, byteOf, Int.toNat_natCast]
  show _ = (((UInt8.ofNat k).toNat : Nat) : Int)
  rw [UInt8.toNat_ofNat']
  omega
section
variable {P : Program} {T : Nat → Option TyI} {o : Oper} {e : AEnv} {h : AHeap}
theorem q_convTo (hT : TOk P T) {t u : TypeId} {x : Operand} {k k' : IntKind} {n r : Int} {i j : TyI} (ho : o.op = .convert t u x) (hx : look e x = some (.int k' n)) (hi : T t = some i) (hj : T u = some j) (hk : j.k = .int k) (hw : k.wrap n = r) : QLoc P o e h [] (.int k r) := by
  have := q_convInt (h := h) hT ho hx hi hj hk
  rwa [hw] at this
end
section
variable {call : Int → Mach → Mach} {s : ByteArray} {t : Tac} {regs : List Int} {m : Mach}
theorem mone1 (h : t.op = 1) : mone call s t regs m = (rset regs t.d t.n, m) := by simp [mone, h]
theorem mone2 (h : t.op = 2) : mone call s t regs m = (rset regs t.d (rget regs t.a), m) := by simp [mone, h]
theorem mone3 (h : t.op = 3) (hz : ((wapp t.k (rget regs t.a) (rget regs t.b)).2 != 0) = false) : mone call s t regs m = (rset regs t.d (wapp t.k (rget regs t.a) (rget regs t.b)).1, m) := by
  have hz' : (wapp t.k (rget regs t.a) (rget regs t.b)).2 = 0 := by simpa using hz
  simp [mone, h, hz']
theorem mone3z (h : t.op = 3) (hz : ((wapp t.k (rget regs t.a) (rget regs t.b)).2 != 0) = true) : mone call s t regs m = (regs, { m with fin := 2 }) := by
  have hz' : ((wapp t.k (rget regs t.a) (rget regs t.b)).2 == 0) = false := by simpa [bne] using hz
  simp [mone, h, hz']
theorem mone4 (h : t.op = 4) : mone call s t regs m = (rset regs t.d (rget m.words t.base), m) := by simp [mone, h]
theorem mone5 (h : t.op = 5) : mone call s t regs m = (regs, { m with words := rset m.words t.base (rget regs t.a) }) := by simp [mone, h]
theorem mone67z (h : t.op = 6 ∨ t.op = 7) (hz : decide (rget regs t.a ≥ t.size) = true) : mone call s t regs m = (regs, { m with fin := 3 }) := by
  rcases h with h | h
  · unfold mone; simp only [h, hz]; rfl
  · unfold mone; simp only [h, hz]; rfl
theorem mone6 (h : t.op = 6) (hz : decide (rget regs t.a ≥ t.size) = false) : mone call s t regs m = (rset regs t.d (rget m.words (t.base + rget regs t.a)), m) := by
  unfold mone; simp only [h, hz]; rfl
theorem mone7 (h : t.op = 7) (hz : decide (rget regs t.a ≥ t.size) = false) : mone call s t regs m = (regs, { m with words := rset m.words (t.base + rget regs t.a) (rget regs t.b) }) := by
  unfold mone; simp only [h, hz]; rfl
theorem mone8 (h : t.op = 8) (hz : m.read < s.size) : mone call s t regs m = (rset regs t.d ((inAt s m.read).toNat : Int), { m with read := m.read + 1 }) := by
  have hz' : decide (m.read < s.size) = true := by simpa using hz
  unfold mone; simp only [h, hz']; rfl
theorem mone8z (h : t.op = 8) (hz : ¬ m.read < s.size) : mone call s t regs m = (rset regs t.d 256, m) := by
  have hz' : decide (m.read < s.size) = false := by simpa using hz
  unfold mone; simp only [h, hz']; rfl
theorem mone9z (h : t.op = 9) (hz : m.out.length ≥ 65536) : mone call s t regs m = (regs, { m with fin := 4 }) := by
  have hz' : decide (m.out.length ≥ 65536) = true := by simpa using hz
  unfold mone; simp only [h, hz']; rfl
theorem mone9 (h : t.op = 9) (hz : ¬ m.out.length ≥ 65536) : mone call s t regs m = (regs, { m with out := m.out ++ [byteOf (rget regs t.a)] }) := by
  have hz' : decide (m.out.length ≥ 65536) = false := by simpa using hz
  unfold mone; simp only [h, hz']; rfl
theorem mone10 (h : t.op = 10) : mone call s t regs m = (regs, call t.base m) := by simp [mone, h]
end
theorem mstep_no {fuel : Int} {m : Mach} (h : decide ((m.steps : Int) ≥ fuel) = true) : mstep fuel m = (false, { m with fin := 5 }) := by simp [mstep, h]
theorem mstep_yes {fuel : Int} {m : Mach} (h : decide ((m.steps : Int) ≥ fuel) = false) : mstep fuel m = (true, { m with steps := m.steps + 1 }) := by simp [mstep, h]
structure TacIn (t : Tac) (number R : Nat) (words : Nat) : Prop where
  op : 1 ≤ t.op ∧ t.op ≤ 10
  d : setsOp t.op = true → 0 ≤ t.d ∧ t.d < R
  a : use1 t.op = true ∨ use2 t.op = true → 0 ≤ t.a ∧ t.a < R
  b : use2 t.op = true → 0 ≤ t.b ∧ t.b < R
  base : t.op = 4 ∨ t.op = 5 → 0 ≤ t.base ∧ t.base < words
  arr : t.op = 6 ∨ t.op = 7 → 1 ≤ t.size ∧ t.size ≤ 4096 ∧ 0 ≤ t.base ∧ t.base + t.size ≤ words
  call : t.op = 10 → 0 ≤ t.base ∧ t.base < number
theorem tacIn_of {t : Tac} {f regs words : Int} (h : t.fits f regs words = true) : TacIn t f.toNat regs.toNat words.toNat := by
  have h0 := h
  simp only [Tac.fits, Bool.and_eq_true, Bool.or_eq_true, Bool.not_eq_true', List.all_eq_true, within, decide_eq_true_eq] at h
  obtain ⟨h1, h2, h3, h4, h5, _⟩ := h
  refine ⟨⟨h1, h2⟩, fun e => ?_, fun e => ?_, fun e => ?_, fun e => ?_, fun e => ?_, fun e => ?_⟩
  · rcases h3 with h3 | h3
    · rw [e] at h3; cases h3
    · omega
  · have := h4 t.a (by rcases e with e | e <;> simp [Tac.uses, e] <;> cases use1 t.op <;> simp)
    omega
  · have e2 := use12 t.op
    rw [e, Bool.and_true] at e2
    have := h4 t.b (by simp [Tac.uses, e, e2])
    omega
  · rcases e with e | e <;> simp [Tac.rest, baseOp, e, within] at h5 <;> omega
  · rcases e with e | e <;> simp [Tac.rest, baseOp, arrOp, e] at h5 <;> omega
  · simp [Tac.rest, baseOp, arrOp, e, within] at h5; omega
structure FG where
  i : Int
  regs : List Int
  m : Mach
  g : Nat
structure IG where
  j : Nat
  regs : List Int
  m : Mach
section
variable {call : Int → Mach → Mach} {s : ByteArray} {fuel : Int} {f : BFunc} {W R : Nat} {tgt : Mach} {q : FG} {k : Block} {r : IG}
structure FInv (call : Int → Mach → Mach) (s : ByteArray) (fuel : Int) (f : BFunc) (W R : Nat) (tgt : Mach) (q : FG) : Prop where
  good : q.m.good W
  fin : q.m.fin = 0
  regs : allR q.regs
  len : q.regs.length = R
  i : 0 ≤ q.i ∧ q.i < f.blocks.length
  g : 0 < q.g
  gas : fuel.toNat < q.m.steps + q.g
  tgt : mblk call s fuel f q.g q.i q.regs q.m = tgt
structure IInv (call : Int → Mach → Mach) (s : ByteArray) (fuel : Int) (k : Block) (q : FG) (W R : Nat) (r : IG) : Prop where
  good : r.m.good W
  fin : r.m.fin = 0
  regs : allR r.regs
  len : r.regs.length = R
  j : r.j ≤ k.ins.length
  steps : q.m.steps ≤ r.m.steps
  eq : mins call s fuel (k.ins.drop r.j) r.regs r.m = mins call s fuel k.ins q.regs q.m
theorem FInv.start (h : FInv call s fuel f W R tgt q) : IInv call s fuel k q W R ⟨0, q.regs, q.m⟩ := ⟨h.good, h.fin, h.regs, h.len, Nat.zero_le _, Nat.le_refl _, rfl⟩
theorem FInv.unfold (h : FInv call s fuel f W R tgt q) (hk : f.blocks[q.i.toNat]? = some k) : tgt =
    (bif (mins call s fuel k.ins q.regs q.m).1 then
        (bif (mstep fuel (mins call s fuel k.ins q.regs q.m).2.2).1 && !(k.fin == 3) then mblk call s fuel f (q.g - 1) (k.next (mins call s fuel k.ins q.regs q.m).2.1) (mins call s fuel k.ins q.regs q.m).2.1 (mstep fuel (mins call s fuel k.ins q.regs q.m).2.2).2 else (mstep fuel (mins call s fuel k.ins q.regs q.m).2.2).2)
      else (mins call s fuel k.ins q.regs q.m).2.2) := by
  have h1 := h.tgt
  obtain ⟨g, hg⟩ : ∃ g, q.g = g + 1 := ⟨q.g - 1, by have := h.g; omega⟩
  rw [hg] at h1 ⊢
  rw [← h1, mblk, hk]; rfl
theorem IInv.head (hi : IInv call s fuel k q W R r) {u : Tac} (hu : k.ins[r.j]? = some u) : mins call s fuel k.ins q.regs q.m = mins call s fuel (u :: k.ins.drop (r.j + 1)) r.regs r.m := by
  rw [← hi.eq]
  have hl := (List.getElem?_eq_some_iff.1 hu)
  obtain ⟨h1, h2⟩ := hl
  rw [List.drop_eq_getElem_cons h1, h2]
theorem IInv.next (hi : IInv call s fuel k q W R r) (hcg : ∀ i m, m.good W → (call i m).good W) (hcs : ∀ i m, m.steps ≤ (call i m).steps) {u : Tac} (hu : k.ins[r.j]? = some u) (hw : isW u.n) (hs : (mstep fuel r.m).1 = true) (hz : ((mone call s u r.regs (mstep fuel r.m).2).2.fin != 0) = false) :
    IInv call s fuel k q W R ⟨r.j + 1, (mone call s u r.regs (mstep fuel r.m).2).1, (mone call s u r.regs (mstep fuel r.m).2).2⟩ := by
  have hz' : ((mone call s u r.regs (mstep fuel r.m).2).2.fin) = 0 := by simpa using hz
  have hg := mone_good (s := s) hcg u hw hi.regs (mstep_good (fuel := fuel) hi.good)
  refine ⟨hg.2.2, hz', hg.1, hg.2.1.trans hi.len, (List.getElem?_eq_some_iff.1 hu).1, ?_, ?_⟩
  · exact Nat.le_trans hi.steps (Nat.le_trans (mstep_steps fuel r.m) (mone_steps hcs u r.regs _))
  · rw [hi.head hu]
    dsimp only
    conv => rhs; rw [mins]
    rw [hs, hz']; rfl
theorem IInv.done (hi : IInv call s fuel k q W R r) (hj : k.ins.length ≤ r.j) : mins call s fuel k.ins q.regs q.m = (true, r.regs, r.m) := by
  rw [← hi.eq, List.drop_eq_nil_of_le hj]; rfl
theorem mstep_true {m : Mach} (hs : (mstep fuel m).1 = true) : (m.steps : Int) < fuel ∧ (mstep fuel m).2 = { m with steps := m.steps + 1 } := by
  unfold mstep at *
  cases e : decide ((m.steps : Int) ≥ fuel) with
  | true => rw [e] at hs; cases hs
  | false => simp at e; exact ⟨e, rfl⟩
theorem FInv.next (h : FInv call s fuel f W R tgt q) (hk : f.blocks[q.i.toNat]? = some k) (hi : IInv call s fuel k q W R r) (hj : k.ins.length ≤ r.j) (hs : (mstep fuel r.m).1 = true) (hf : (k.fin == 3) = false) (hn : 0 ≤ k.next r.regs ∧ k.next r.regs < f.blocks.length) :
    FInv call s fuel f W R tgt ⟨k.next r.regs, r.regs, (mstep fuel r.m).2, q.g - 1⟩ ∧ q.g - 1 < q.g := by
  obtain ⟨h1, h2⟩ := mstep_true hs
  have hg := h.g
  have hgas := h.gas
  have hst := hi.steps
  refine ⟨⟨mstep_good hi.good, by rw [h2]; exact hi.fin, hi.regs, hi.len, hn, ?_, ?_, ?_⟩, by omega⟩
  · rw [show (FG.mk (k.next r.regs) r.regs (mstep fuel r.m).2 (q.g - 1)).g = q.g - 1 from rfl]; omega
  · rw [h2]; dsimp only; omega
  · rw [h.unfold hk, hi.done hj]
    simp only [hs, hf, Bool.not_false, Bool.and_true, cond_true]
end
theorem ends_next {k : Block} {blocks regs : Int} (h : k.ends blocks regs = true) (hf : (k.fin == 3) = false) (l : List Int) : 0 ≤ k.next l ∧ k.next l < blocks := by
  unfold Block.ends at h
  unfold Block.next
  cases e1 : k.fin == 1 with
  | true =>
    rw [e1] at h
    have e2 : (k.fin == 2) = false := by simp at e1 ⊢; omega
    rw [e2]
    simp [within] at h ⊢; omega
  | false =>
    cases e2 : k.fin == 2 with
    | true =>
      rw [e1, e2] at h
      simp [within] at h
      cases rget l k.v == 0 <;> simp <;> omega
    | false => rw [e1, e2, hf] at h; simp at h
theorem ends_v {k : Block} {blocks regs : Int} (h : k.ends blocks regs = true) (hf : (k.fin == 2) = true) : 0 ≤ k.v ∧ k.v < regs := by
  have e1 : (k.fin == 1) = false := by simp at hf ⊢; omega
  unfold Block.ends at h
  rw [e1, hf] at h
  simp [within] at h; omega
theorem FInv.first {call : Int → Mach → Mach} {s : ByteArray} {fuel : Int} {f : BFunc} {W : Nat} {m : Mach} (hm : m.good W) (h0 : m.fin = 0) (hf : f.blocks ≠ []) :
    FInv call s fuel f W f.regs.toNat (mblk call s fuel f (fuel.toNat + 1) 0 (List.replicate f.regs.toNat 0) m) ⟨0, List.replicate f.regs.toNat 0, m, fuel.toNat + 1⟩ :=
  ⟨hm, h0, allR_rep _, by simp, ⟨by show (0 : Int) ≤ 0; omega, by show (0 : Int) < _; have := List.length_pos_iff.2 hf; omega⟩, Nat.succ_pos _, by show fuel.toNat < m.steps + (fuel.toNat + 1); omega, rfl⟩
end Go.Proofs.Ytjmjmedjjbginaa.Sv

namespace Go.Proofs.Ytjmjmedjjbginaa.Sv
open Go
structure Mach.Le (m m' : Mach) : Prop where
  words : m'.words = m.words
  out : m'.out = m.out
  read : m'.read = m.read
  fin : m'.fin = m.fin
  steps : m'.steps ≤ m.steps
def Mach.Sim (x y : Mach) : Prop := x.fin = 5 ∨ x.Le y
theorem Mach.Le.refl (m : Mach) : m.Le m := ⟨rfl, rfl, rfl, rfl, Nat.le_refl _⟩
theorem Mach.Le.put {m m' : Mach} (h : m.Le m') (w : List Int) (o : List UInt8) (r : Nat) (f : Int) : Mach.Le ⟨w, o, r, m.steps, f⟩ ⟨w, o, r, m'.steps, f⟩ := ⟨rfl, rfl, rfl, rfl, h.steps⟩
section
variable {call call' : Int → Mach → Mach} {s : ByteArray} {fuel : Int}
theorem mstep_false {m : Mach} (h : (mstep fuel m).1 = false) : (mstep fuel m).2.fin = 5 := by
  unfold mstep at *
  cases e : decide ((m.steps : Int) ≥ fuel) with
  | true => rfl
  | false => rw [e] at h; cases h
theorem mstep_le {m m' : Mach} (h : m.Le m') (h1 : (mstep fuel m).1 = true) : (mstep fuel m').1 = true ∧ (mstep fuel m).2.Le (mstep fuel m').2 := by
  obtain ⟨a1, a2⟩ := mstep_true h1
  have h2 : decide ((m'.steps : Int) ≥ fuel) = false := by have := h.steps; simp; omega
  have e : mstep fuel m' = (true, { m' with steps := m'.steps + 1 }) := mstep_yes h2
  rw [a2, e]
  exact ⟨rfl, ⟨h.words, h.out, h.read, h.fin, Nat.succ_le_succ h.steps⟩⟩
def callsSim (call call' : Int → Mach → Mach) (ok : Int → Prop) : Prop := ∀ i m m', ok i → m.fin = 0 → m.Le m' → (call i m).Sim (call' i m')
theorem mone_sim {ok : Int → Prop} (hc : callsSim call call' ok) (t : Tac) (ht : t.op = 10 → ok t.base) (regs : List Int) {m m' : Mach} (h0 : m.fin = 0) (h : m.Le m') :
    (mone call s t regs m).1 = (mone call' s t regs m').1 ∧ (mone call s t regs m).2.Sim (mone call' s t regs m').2 := by
  obtain ⟨w, o, r, st, f⟩ := m
  obtain ⟨w', o', r', st', f'⟩ := m'
  obtain ⟨h1, h2, h3, h4, h5⟩ := h
  simp only at h1 h2 h3 h4 h5
  subst h1; subst h2; subst h3; subst h4
  have hle : ∀ (a : List Int) (b : List UInt8) (c : Nat) (d : Int), Mach.Le ⟨a, b, c, st, d⟩ ⟨a, b, c, st', d⟩ := fun a b c d => ⟨rfl, rfl, rfl, rfl, h5⟩
  unfold mone
  cases t.op == 1 with
  | true => exact ⟨rfl, .inr (hle _ _ _ _)⟩
  | false =>
  cases t.op == 2 with
  | true => exact ⟨rfl, .inr (hle _ _ _ _)⟩
  | false =>
  cases t.op == 3 with
  | true =>
    simp only [cond_true, cond_false]
    cases (wapp t.k (rget regs t.a) (rget regs t.b)).2 == 0 <;> exact ⟨rfl, .inr (hle _ _ _ _)⟩
  | false =>
  cases t.op == 4 with
  | true => exact ⟨rfl, .inr (hle _ _ _ _)⟩
  | false =>
  cases t.op == 5 with
  | true => exact ⟨rfl, .inr (hle _ _ _ _)⟩
  | false =>
  cases t.op == 6 with
  | true =>
    simp only [cond_true, cond_false]
    cases decide (rget regs t.a ≥ t.size) <;> exact ⟨rfl, .inr (hle _ _ _ _)⟩
  | false =>
  cases t.op == 7 with
  | true =>
    simp only [cond_true, cond_false]
    cases decide (rget regs t.a ≥ t.size) <;> exact ⟨rfl, .inr (hle _ _ _ _)⟩
  | false =>
  cases t.op == 8 with
  | true =>
    simp only [cond_true, cond_false]
    cases decide (r' < s.size) <;> exact ⟨rfl, .inr (hle _ _ _ _)⟩
  | false =>
  cases t.op == 9 with
  | true =>
    simp only [cond_true, cond_false]
    cases decide (o'.length ≥ 65536) <;> exact ⟨rfl, .inr (hle _ _ _ _)⟩
  | false =>
  cases h10 : t.op == 10 with
  | true => exact ⟨rfl, hc _ _ _ (ht (by simpa using h10)) h0 (hle _ _ _ _)⟩
  | false => exact ⟨rfl, .inr (hle _ _ _ _)⟩
def insSim (X Y : Bool × List Int × Mach) : Prop := X.1 = false ∧ X.2.2.fin = 5 ∨ X.1 = Y.1 ∧ X.2.1 = Y.2.1 ∧ X.2.2.Le Y.2.2 ∧ (X.1 = true → X.2.2.fin = 0) ∧ (X.1 = false → X.2.2.fin ≠ 0)
theorem mins_sim {ok : Int → Prop} (hc : callsSim call call' ok) : ∀ (l : List Tac), (∀ t ∈ l, t.op = 10 → ok t.base) → ∀ (regs : List Int) {m m' : Mach}, m.fin = 0 → m.Le m' → insSim (mins call s fuel l regs m) (mins call' s fuel l regs m')
  | [], _, regs, m, m', h0, h => .inr ⟨rfl, rfl, h, fun _ => h0, fun e => by cases e⟩
  | t :: r, hl, regs, m, m', h0, h => by
    unfold mins
    cases h1 : (mstep fuel m).1 with
    | false => exact .inl ⟨rfl, mstep_false h1⟩
    | true =>
      obtain ⟨a1, a2⟩ := mstep_le h h1
      have hz : (mstep fuel m).2.fin = 0 := by rw [(mstep_true h1).2]; exact h0
      obtain ⟨b1, b2⟩ := mone_sim (s := s) hc t (hl t (by simp)) regs hz a2
      rw [a1]
      simp only [cond_true]
      rcases b2 with b2 | b2
      · rw [show ((mone call s t regs (mstep fuel m).2).2.fin == 0) = false by rw [b2]; rfl]
        exact .inl ⟨rfl, b2⟩
      · rw [b2.fin, ← b1]
        cases hf : (mone call s t regs (mstep fuel m).2).2.fin == 0 with
        | false =>
          simp only [cond_false]
          exact .inr ⟨rfl, b1, b2, (fun e => by cases e), fun _ => by simpa using hf⟩
        | true =>
          simp only [cond_true]
          exact mins_sim hc r (fun u hu => hl u (by simp [hu])) _ (by simpa using hf) b2
def gasOk (fuel : Int) (g : Nat) (m : Mach) : Prop := fuel.toNat < m.steps + g
theorem mblk_sim {ok : Int → Prop} (hc : callsSim call call' ok) {f : BFunc} (hf : ∀ x ∈ f.blocks, ∀ t ∈ x.ins, t.op = 10 → ok t.base) (hcs : ∀ i m, m.steps ≤ (call i m).steps) (hcs' : ∀ i m, m.steps ≤ (call' i m).steps) :
    ∀ (g : Nat) (g' : Nat) (i : Int) (regs : List Int) (m m' : Mach), m.fin = 0 → m.Le m' → 0 < g → 0 < g' → gasOk fuel g m → gasOk fuel g' m' → (mblk call s fuel f g i regs m).Sim (mblk call' s fuel f g' i regs m')
  | 0, _, _, _, _, _, _, _, h, _, _, _ => absurd h (by omega)
  | _ + 1, 0, _, _, _, _, _, _, _, h, _, _ => absurd h (by omega)
  | g + 1, g' + 1, i, regs, m, m', h0, h, _, _, hg, hg' => by
    unfold mblk
    cases hk : f.blocks[i.toNat]? with
    | none => exact .inr h
    | some k =>
      have hs := mins_sim (s := s) (fuel := fuel) hc k.ins (hf k (List.mem_of_getElem? hk)) regs h0 h
      have hst := mins_steps (s := s) (fuel := fuel) hcs k.ins regs m
      have hst' := mins_steps (s := s) (fuel := fuel) hcs' k.ins regs m'
      dsimp only
      generalize mins call s fuel k.ins regs m = X at hs hst ⊢
      generalize mins call' s fuel k.ins regs m' = Y at hs hst' ⊢
      obtain ⟨X1, X2, X3⟩ := X
      obtain ⟨Y1, Y2, Y3⟩ := Y
      rcases hs with ⟨h1, h2⟩ | ⟨h1, h2, h3, h4, h5⟩
      · simp only at h1 h2; subst h1; exact .inl h2
      · simp only at h1 h2 h3 h4 h5 hst hst'
        subst h1; subst h2
        cases X1 with
        | false => exact .inr h3
        | true =>
          simp only [cond_true]
          cases hm : (mstep fuel X3).1 with
          | false => simp only [Bool.false_and, cond_false]; exact .inl (mstep_false hm)
          | true =>
            obtain ⟨a1, a2⟩ := mstep_le h3 hm
            obtain ⟨e1, e2⟩ := mstep_true hm
            obtain ⟨e1', e2'⟩ := mstep_true a1
            rw [a1]
            cases hfin : k.fin == 3 with
            | true => exact .inr a2
            | false =>
              simp only [Bool.not_false, Bool.and_self, cond_true]
              refine mblk_sim hc hf hcs hcs' g g' _ _ _ _ (by rw [e2]; exact h4 rfl) a2 ?_ ?_ ?_ ?_
              · unfold gasOk at hg; omega
              · unfold gasOk at hg'; omega
              · unfold gasOk at hg ⊢; rw [e2]; dsimp only; omega
              · unfold gasOk at hg' ⊢; rw [e2']; dsimp only; omega
end
theorem mfun_sim {b : Blocks} (hb : b.right = true) {s : ByteArray} {fuel : Int} : ∀ (n : Nat) (i : Int) (m m' : Mach), 0 ≤ i → i < b.funcs.length → m.fin = 0 → m.Le m' → (mfun b s fuel n i m).Sim (mfun b s fuel n i m')
  | 0, _, _, _, _, _, _, h => .inr h
  | n + 1, i, m, m', h1, h2, h0, h => by
    unfold mfun
    cases hf : b.funcs[i.toNat]? with
    | none => exact .inr h
    | some f =>
      have hone := (right_spec hb).2.2.2 i.toNat f hf
      refine mblk_sim (ok := fun j => 0 ≤ j ∧ j < b.funcs.length) (fun j m m' hj hz hl => mfun_sim hb n j m m' hj.1 hj.2 hz hl) (fun x hx t ht ho => ?_) (fun j m => mfun_steps n j m) (fun j m => mfun_steps n j m) _ _ _ _ _ _ h0 h (Nat.succ_pos _) (Nat.succ_pos _) ?_ ?_
      · have := (tacIn_of (((one_spec hone).2.2.2 x hx).2 t ht)).call ho
        omega
      · unfold gasOk; omega
      · unfold gasOk; omega
end Go.Proofs.Ytjmjmedjjbginaa.Sv

namespace Go.Proofs.Ytjmjmedjjbginaa.Sv
open Go

theorem Mach.Le.trans {a b c : Mach} (h1 : a.Le b) (h2 : b.Le c) : a.Le c := ⟨h2.words.trans h1.words, h2.out.trans h1.out, h2.read.trans h1.read, h2.fin.trans h1.fin, Nat.le_trans h2.steps h1.steps⟩
theorem Mach.Sim.trans {a b c : Mach} (h1 : a.Sim b) (h2 : b.Sim c) : a.Sim c := by
  rcases h1 with h1 | h1
  · exact .inl h1
  · rcases h2 with h2 | h2
    · exact .inl (h1.fin.symm.trans h2)
    · exact .inr (h1.trans h2)
section
variable {call call' : Int → Mach → Mach} {s : ByteArray} {fuel : Int}
theorem mins_cons (t : Tac) (r : List Tac) (regs : List Int) (m : Mach) : mins call s fuel (t :: r) regs m = bif (mstep fuel m).1 then (bif (mone call s t regs (mstep fuel m).2).2.fin == 0 then mins call s fuel r (mone call s t regs (mstep fuel m).2).1 (mone call s t regs (mstep fuel m).2).2 else (false, mone call s t regs (mstep fuel m).2)) else (false, regs, (mstep fuel m).2) := rfl
theorem mins_app : ∀ (l1 l2 : List Tac) (regs : List Int) (m : Mach), mins call s fuel (l1 ++ l2) regs m = bif (mins call s fuel l1 regs m).1 then mins call s fuel l2 (mins call s fuel l1 regs m).2.1 (mins call s fuel l1 regs m).2.2 else mins call s fuel l1 regs m
  | [], l2, regs, m => rfl
  | t :: r, l2, regs, m => by
    simp only [List.cons_append]
    rw [mins_cons, mins_cons]
    cases (mstep fuel m).1 with
    | false => rfl
    | true =>
      simp only [cond_true]
      cases (mone call s t regs (mstep fuel m).2).2.fin == 0 with
      | false => rfl
      | true => simp only [cond_true]; exact mins_app r l2 _ _
theorem rset_len (l : List Int) (z v : Int) : (rset l z v).length = l.length := List.length_set
theorem mone_use (t : Tac) {r r' : List Int} (ha : use1 t.op = true ∨ use2 t.op = true → rget r t.a = rget r' t.a) (hb : use2 t.op = true → rget r t.b = rget r' t.b) (m : Mach) :
    (mone call s t r m).2 = (mone call s t r' m).2 ∧ ((setsOp t.op = true ∧ ∃ v, (mone call s t r m).1 = rset r t.d v ∧ (mone call s t r' m).1 = rset r' t.d v) ∨ ((mone call s t r m).1 = r ∧ (mone call s t r' m).1 = r' ∧ (setsOp t.op = false ∨ (mone call s t r m).2.fin ≠ 0))) := by
  unfold mone
  cases e1 : t.op == 1 with
  | true => exact ⟨rfl, .inl ⟨by simp [setsOp, e1], _, rfl, rfl⟩⟩
  | false =>
  cases e2 : t.op == 2 with
  | true => rw [ha (.inl (by simp [use1, e2]))]; exact ⟨rfl, .inl ⟨by simp [setsOp, e2], _, rfl, rfl⟩⟩
  | false =>
  cases e3 : t.op == 3 with
  | true =>
    rw [ha (.inr (by simp [use2, e3])), hb (by simp [use2, e3])]
    simp only [cond_true, cond_false]
    cases (wapp t.k (rget r' t.a) (rget r' t.b)).2 == 0 with
    | true => exact ⟨rfl, .inl ⟨by simp [setsOp, e3], _, rfl, rfl⟩⟩
    | false => exact ⟨rfl, .inr ⟨rfl, rfl, .inr (by simp)⟩⟩
  | false =>
  cases e4 : t.op == 4 with
  | true => exact ⟨rfl, .inl ⟨by simp [setsOp, e4], _, rfl, rfl⟩⟩
  | false =>
  cases e5 : t.op == 5 with
  | true => rw [ha (.inl (by simp [use1, e5]))]; exact ⟨rfl, .inr ⟨rfl, rfl, .inl (by rw [eq_of_beq e5]; rfl)⟩⟩
  | false =>
  cases e6 : t.op == 6 with
  | true =>
    rw [ha (.inl (by simp [use1, e6]))]
    simp only [cond_true, cond_false]
    cases decide (rget r' t.a ≥ t.size) with
    | true => exact ⟨rfl, .inr ⟨rfl, rfl, .inr (by simp)⟩⟩
    | false => exact ⟨rfl, .inl ⟨by simp [setsOp, e6], _, rfl, rfl⟩⟩
  | false =>
  cases e7 : t.op == 7 with
  | true =>
    have ho : t.op = 7 := by simpa using e7
    rw [ha (.inr (by simp [use2, e7])), hb (by simp [use2, e7])]
    simp only [cond_true, cond_false]
    cases decide (rget r' t.a ≥ t.size) <;> exact ⟨rfl, .inr ⟨rfl, rfl, .inl (by rw [ho]; rfl)⟩⟩
  | false =>
  cases e8 : t.op == 8 with
  | true =>
    simp only [cond_true, cond_false]
    cases decide (m.read < s.size) <;> exact ⟨rfl, .inl ⟨by simp [setsOp, e8], _, rfl, rfl⟩⟩
  | false =>
  have hs : setsOp t.op = false := by simp [setsOp, e1, e2, e3, e4, e6, e8]
  cases e9 : t.op == 9 with
  | true =>
    rw [ha (.inl (by simp [use1, e9]))]
    simp only [cond_true, cond_false]
    cases decide (m.out.length ≥ 65536) <;> exact ⟨rfl, .inr ⟨rfl, rfl, .inl hs⟩⟩
  | false =>
  cases t.op == 10 <;> exact ⟨rfl, .inr ⟨rfl, rfl, .inl hs⟩⟩
theorem rget_rset {l : List Int} {z : Int} {w : Nat} {v : Int} (hz : 0 ≤ z) : rget (rset l z v) (w : Int) = if z = (w : Int) ∧ z.toNat < l.length then v else rget l (w : Int) := by
  unfold rget rset
  rw [List.getElem?_set, Int.toNat_natCast]
  by_cases h : z = (w : Int)
  · subst h
    rw [Int.toNat_natCast]
    by_cases h2 : w < l.length
    · simp [h2]
    · simp [h2]
  · have : ¬ z.toNat = w := by omega
    simp [this, h]
def Tac.low (t : Tac) : Prop := (setsOp t.op = true → 0 ≤ t.d) ∧ (use1 t.op = true ∨ use2 t.op = true → 0 ≤ t.a) ∧ (use2 t.op = true → 0 ≤ t.b)
def agreeN (p : Nat → Bool) (r r' : List Int) : Prop := r.length = r'.length ∧ ∀ v : Nat, p v = true → rget r (v : Int) = rget r' (v : Int)
theorem sets_eq {t : Tac} (h : setsOp t.op = true) : t.sets = t.d := by unfold Tac.sets; rw [h]; rfl
theorem sets_none {t : Tac} (h : setsOp t.op = false) : t.sets = -1 := by unfold Tac.sets; rw [h]; rfl
def insLive (z : Nat → Bool) (X Y : Bool × List Int × Mach) : Prop := X.1 = false ∧ X.2.2.fin = 5 ∨ X.1 = Y.1 ∧ X.2.2.Le Y.2.2 ∧ (X.1 = true → X.2.2.fin = 0 ∧ agreeN z X.2.1 Y.2.1) ∧ (X.1 = false → X.2.2.fin ≠ 0)
theorem agree_uses {t : Tac} {r : List Tac} {z : Nat → Bool} {a b : List Int} (h : agreeN (fun v => need v (t :: r) (z v)) a b) (hl : t.low) : (use1 t.op = true ∨ use2 t.op = true → rget a t.a = rget b t.a) ∧ (use2 t.op = true → rget a t.b = rget b t.b) := by
  have key : ∀ u, 0 ≤ u → t.uses.contains u = true → rget a u = rget b u := fun u hu hc => by
    have := h.2 u.toNat (by show need _ (t :: r) _ = true; unfold need; rw [Int.toNat_of_nonneg hu, hc]; rfl)
    rwa [Int.toNat_of_nonneg hu] at this
  have e12 := use12 t.op
  constructor
  · intro e
    refine key t.a (hl.2.1 e) ?_
    rcases e with e | e <;> simp [Tac.uses, e] <;> cases use1 t.op <;> simp
  · intro e
    rw [e, Bool.and_true] at e12
    exact key t.b (hl.2.2 e) (by simp [Tac.uses, e, e12])
theorem mone_live {ok : Int → Prop} (hc : callsSim call call' ok) {t : Tac} {r : List Tac} {z : Nat → Bool} (ht : t.op = 10 → ok t.base) (hl : t.low) {a b : List Int} (h : agreeN (fun v => need v (t :: r) (z v)) a b) {m m' : Mach} (h0 : m.fin = 0) (hm : m.Le m') :
    (mone call s t a m).2.Sim (mone call' s t b m').2 ∧ ((mone call s t a m).2.fin = 0 → agreeN (fun v => need v r (z v)) (mone call s t a m).1 (mone call' s t b m').1) := by
  obtain ⟨u1, u2⟩ := agree_uses h hl
  obtain ⟨e1, e2⟩ := mone_use (call := call) (s := s) t u1 u2 m
  obtain ⟨s1, s2⟩ := mone_sim (s := s) hc t ht b h0 hm
  rw [e1, ← s1]
  refine ⟨s2, fun hf => ?_⟩
  rcases e2 with ⟨hs, v, a1, a2⟩ | ⟨a1, a2, a3⟩
  · rw [a1, a2]
    refine ⟨by rw [rset_len, rset_len]; exact h.1, fun w hw => ?_⟩
    rw [rget_rset (hl.1 hs), rget_rset (hl.1 hs), h.1]
    by_cases hd : t.d = (w : Int)
    · by_cases hlen : t.d.toNat < b.length
      · rw [if_pos ⟨hd, hlen⟩, if_pos ⟨hd, hlen⟩]
      · rw [if_neg (fun e => hlen e.2), if_neg (fun e => hlen e.2)]
        have hw2 : w ≥ b.length := by omega
        unfold rget
        rw [Int.toNat_natCast, List.getElem?_eq_none_iff.2 hw2, List.getElem?_eq_none_iff.2 (by rw [h.1]; exact hw2)]
    · rw [if_neg (fun e => hd e.1), if_neg (fun e => hd e.1)]
      refine h.2 w ?_
      show need w (t :: r) (z w) = true
      unfold need
      rw [sets_eq hs, show (t.d == (w : Int)) = false by simpa using hd, show need w r (z w) = true from hw]
      simp
  · rw [a1, a2]
    rcases a3 with a3 | a3
    · refine ⟨h.1, fun w hw => h.2 w ?_⟩
      show need w (t :: r) (z w) = true
      unfold need
      rw [sets_none a3, show ((-1 : Int) == (w : Int)) = false by simp, show need w r (z w) = true from hw]
      simp
    · exact absurd (e1 ▸ hf) a3
theorem mins_live {ok : Int → Prop} (hc : callsSim call call' ok) {z : Nat → Bool} : ∀ (l : List Tac), (∀ t ∈ l, (t.op = 10 → ok t.base) ∧ t.low) → ∀ {a b : List Int} {m m' : Mach}, agreeN (fun v => need v l (z v)) a b → m.fin = 0 → m.Le m' → insLive z (mins call s fuel l a m) (mins call' s fuel l b m')
  | [], _, a, b, m, m', ha, h0, h => .inr ⟨rfl, h, fun _ => ⟨h0, ha⟩, fun e => by cases e⟩
  | t :: r, hl, a, b, m, m', ha, h0, h => by
    unfold mins
    cases h1 : (mstep fuel m).1 with
    | false => exact .inl ⟨rfl, mstep_false h1⟩
    | true =>
      obtain ⟨a1, a2⟩ := mstep_le h h1
      have hz : (mstep fuel m).2.fin = 0 := by rw [(mstep_true h1).2]; exact h0
      obtain ⟨b2, b1⟩ := mone_live (s := s) hc (hl t (by simp)).1 (hl t (by simp)).2 ha hz a2
      rw [a1]
      simp only [cond_true]
      rcases b2 with b2 | b2
      · rw [show ((mone call s t a (mstep fuel m).2).2.fin == 0) = false by rw [b2]; rfl]
        exact .inl ⟨rfl, b2⟩
      · rw [b2.fin]
        cases hf : (mone call s t a (mstep fuel m).2).2.fin == 0 with
        | false =>
          simp only [cond_false]
          exact .inr ⟨rfl, b2, (fun e => by cases e), fun _ => by simpa using hf⟩
        | true =>
          simp only [cond_true]
          exact mins_live hc r (fun u hu => hl u (by simp [hu])) (b1 (by simpa using hf)) (by simpa using hf) b2
theorem wapp_ok {k a b : Int} (hk : 4 ≤ k ∧ k ≤ 15) (h7 : k ≠ 7) (h8 : k ≠ 8) : (wapp k a b).2 = 0 := by
  have : k = 4 ∨ k = 5 ∨ k = 6 ∨ k = 9 ∨ k = 10 ∨ k = 11 ∨ k = 12 ∨ k = 13 ∨ k = 14 ∨ k = 15 := by omega
  rcases this with h | h | h | h | h | h | h | h | h | h <;> subst h <;> rfl
theorem mone_pure {t : Tac} (hp : t.pure = true) (hk : t.op = 3 → 4 ≤ t.k ∧ t.k ≤ 15) (r : List Int) (m : Mach) : ∃ v, mone call s t r m = (rset r t.d v, m) := by
  unfold Tac.pure at hp
  simp only [Bool.or_eq_true, Bool.and_eq_true, Bool.not_eq_true', beq_eq_false_iff_ne, beq_iff_eq] at hp
  unfold mone
  rcases hp with h | h | h | ⟨h, h7, h8⟩
  · rw [h]; exact ⟨_, rfl⟩
  · rw [h]; exact ⟨_, rfl⟩
  · rw [h]; exact ⟨_, rfl⟩
  · have := wapp_ok (a := rget r t.a) (b := rget r t.b) (hk h) h7 h8
    rw [h, this]
    exact ⟨_, rfl⟩
theorem pure_sets {t : Tac} (hp : t.pure = true) : setsOp t.op = true := by
  unfold Tac.pure at hp
  simp only [Bool.or_eq_true, Bool.and_eq_true, Bool.not_eq_true', beq_eq_false_iff_ne, beq_iff_eq] at hp
  rcases hp with h | h | h | ⟨h, _⟩ <;> rw [h] <;> rfl
theorem mins_cut {ok : Int → Prop} (hc : callsSim call call' ok) {z : Nat → Bool} {l1 l2 : List Tac} {t : Tac} {v : Nat} (hl : ∀ u ∈ l1 ++ t :: l2, (u.op = 10 → ok u.base) ∧ u.low) (hp : t.pure = true) (hk : t.op = 3 → 4 ≤ t.k ∧ t.k ≤ 15) (hv : t.sets = (v : Int)) (hd : need v l2 (z v) = false)
    {a b : List Int} {m m' : Mach} (ha : agreeN (fun v => need v (l1 ++ t :: l2) (z v)) a b) (h0 : m.fin = 0) (h : m.Le m') : insLive z (mins call s fuel (l1 ++ t :: l2) a m) (mins call' s fuel (l1 ++ l2) b m') := by
  have h1 := mins_live (s := s) (fuel := fuel) hc (z := fun v => need v (t :: l2) (z v)) l1 (fun u hu => hl u (by simp [hu])) (a := a) (b := b) ⟨ha.1, fun w hw => ha.2 w (by show need w _ _ = true; rw [need_app]; exact hw)⟩ h0 h
  rw [mins_app, mins_app]
  generalize mins call s fuel l1 a m = X at h1 ⊢
  generalize mins call' s fuel l1 b m' = Y at h1 ⊢
  obtain ⟨X1, X2, X3⟩ := X
  obtain ⟨Y1, Y2, Y3⟩ := Y
  rcases h1 with ⟨h1, h2⟩ | ⟨h1, h2, h3, h4⟩
  · simp only at h1 h2; subst h1; exact .inl ⟨rfl, h2⟩
  · simp only at h1 h2 h3 h4; subst h1
    cases X1 with
    | false => exact .inr ⟨rfl, h2, (fun e => by cases e), h4⟩
    | true =>
      simp only [cond_true]
      obtain ⟨hz, hag⟩ := h3 rfl
      rw [mins_cons]
      cases hs : (mstep fuel X3).1 with
      | false => exact .inl ⟨rfl, mstep_false hs⟩
      | true =>
        obtain ⟨val, hmo⟩ := mone_pure (call := call) (s := s) hp hk X2 (mstep fuel X3).2
        obtain ⟨e1, e2⟩ := mstep_true hs
        rw [hmo]
        have hz' : (mstep fuel X3).2.fin = 0 := by rw [e2]; exact hz
        simp only [cond_true]
        rw [hz']
        have hlt := (hl t (by simp)).2
        have hso := pure_sets hp
        have hdv : t.d = (v : Int) := by rw [← sets_eq hso]; exact hv
        have hkey := mins_live (s := s) (fuel := fuel) hc (z := z) l2 (fun u hu => hl u (by simp [hu])) (a := rset X2 t.d val) (b := Y2) (m := (mstep fuel X3).2) (m' := Y3)
          ⟨by rw [rset_len]; exact hag.1, fun w hw => by
            have hne : ¬ t.d = (w : Int) := fun e => by
              have : v = w := by omega
              subst this
              rw [show need v l2 (z v) = true from hw] at hd; cases hd
            rw [rget_rset (hlt.1 hso), if_neg (fun e => hne e.1)]
            refine hag.2 w ?_
            show need w (t :: l2) (z w) = true
            unfold need
            rw [sets_eq hso, show (t.d == (w : Int)) = false by simpa using hne, show need w l2 (z w) = true from hw]
            simp⟩ hz' (by rw [e2]; exact ⟨h2.words, h2.out, h2.read, h2.fin, Nat.le_trans h2.steps (Nat.le_succ _)⟩)
        exact hkey
structure Fine (ok : Int → Prop) (f : BFunc) : Prop where
  ins : ∀ x ∈ f.blocks, ∀ t ∈ x.ins, (t.op = 10 → ok t.base) ∧ t.low ∧ (t.op = 3 → 4 ≤ t.k ∧ t.k ≤ 15)
  fin : ∀ x ∈ f.blocks, (x.fin = 1 ∨ x.fin = 2 ∨ x.fin = 3) ∧ (x.fin = 2 → 0 ≤ x.v)
theorem next_mem {k : Block} (hf : k.fin = 1 ∨ k.fin = 2 ∨ k.fin = 3) (h3 : (k.fin == 3) = false) (regs : List Int) : k.next regs ∈ k.nexts := by
  unfold Block.next Block.nexts
  rcases hf with h | h | h
  · rw [h]; simp
  · rw [h]; cases rget regs k.v == 0 <;> simp
  · rw [h] at h3; cases h3
theorem next_agree {f : BFunc} {k : Block} (hv : k.fin = 2 → 0 ≤ k.v) {a b : List Int} (h : agreeN (endB f k) a b) : k.next a = k.next b := by
  unfold Block.next
  cases h2 : k.fin == 2 with
  | false => rfl
  | true =>
    have h0 := hv (by simpa using h2)
    have := h.2 k.v.toNat (by unfold endB endz; rw [h2, Int.toNat_of_nonneg h0]; simp)
    rw [Int.toNat_of_nonneg h0] at this
    rw [this]
theorem agree_next {f : BFunc} {k : Block} (hf : k.fin = 1 ∨ k.fin = 2 ∨ k.fin = 3) (h3 : (k.fin == 3) = false) {a b : List Int} (h : agreeN (endB f k) a b) : agreeN (fun v => inB f v (k.next a).toNat) a b :=
  ⟨h.1, fun v hv => h.2 v (by unfold endB; rw [outB_iff.2 ⟨_, next_mem hf h3 a, inB_iff.1 hv⟩, Bool.or_true])⟩
theorem mblk_cut {ok : Int → Prop} (hc : callsSim call call' ok) {f g : BFunc} {c : Nat} {x : Block} {l1 l2 : List Tac} {t : Tac} {v : Nat} (hcut : CutAt f g c x l1 t l2 v) (hf : Fine ok f) (hcs : ∀ i m, m.steps ≤ (call i m).steps) (hcs' : ∀ i m, m.steps ≤ (call' i m).steps) :
    ∀ (n : Nat) (n' : Nat) (i : Int) (a b : List Int) (m m' : Mach), agreeN (fun v => inB f v i.toNat) a b → m.fin = 0 → m.Le m' → 0 < n → 0 < n' → gasOk fuel n m → gasOk fuel n' m' → (mblk call s fuel f n i a m).Sim (mblk call' s fuel g n' i b m')
  | 0, _, _, _, _, _, _, _, _, _, h, _, _, _ => absurd h (by omega)
  | _ + 1, 0, _, _, _, _, _, _, _, _, _, h, _, _ => absurd h (by omega)
  | n + 1, n' + 1, i, a, b, m, m', hag, h0, h, _, _, hg, hg' => by
    cases hk : f.blocks[i.toNat]? with
    | none =>
      have hk' : g.blocks[i.toNat]? = none := by
        rw [List.getElem?_eq_none_iff] at hk ⊢
        rw [hcut.hg, putB_len]; exact hk
      unfold mblk
      rw [hk, hk']; exact .inr h
    | some k =>
      obtain ⟨k', hk', hkn, hs⟩ : ∃ k', g.blocks[i.toNat]? = some k' ∧ (k'.fin = k.fin ∧ ∀ r, k'.next r = k.next r) ∧ insLive (endB f k) (mins call s fuel k.ins a m) (mins call' s fuel k'.ins b m') := by
        have hin := hf.ins k (List.mem_of_getElem? hk)
        have hag' : agreeN (fun v => need v k.ins (endB f k v)) a b := ⟨hag.1, fun w hw => hag.2 w (by show inB f w _ = true; rw [inB_eq hk]; exact hw)⟩
        by_cases hci : c = i.toNat
        · subst hci
          have := hcut.hx.symm.trans hk; cases this
          refine ⟨x.mid (l1 ++ l2), by rw [hcut.hg]; exact putB_self hcut.hx, ⟨rfl, fun _ => rfl⟩, ?_⟩
          have hi := hcut.hi
          show insLive (endB f x) (mins call s fuel x.ins a m) (mins call' s fuel (l1 ++ l2) b m')
          rw [hi] at hin hag' ⊢
          exact mins_cut hc (fun u hu => ⟨(hin u hu).1, (hin u hu).2.1⟩) hcut.pure (hin t (by simp)).2.2 hcut.hv hcut.dead hag' h0 h
        · exact ⟨k, by rw [hcut.hg, putB_ne hci]; exact hk, ⟨rfl, fun _ => rfl⟩, mins_live hc k.ins (fun u hu => ⟨(hin u hu).1, (hin u hu).2.1⟩) hag' h0 h⟩
      unfold mblk
      rw [hk, hk']
      have hst := mins_steps (s := s) (fuel := fuel) hcs k.ins a m
      have hst' := mins_steps (s := s) (fuel := fuel) hcs' k'.ins b m'
      have hfin := hf.fin k (List.mem_of_getElem? hk)
      dsimp only
      rw [hkn.1, hkn.2]
      generalize mins call s fuel k.ins a m = X at hs hst ⊢
      generalize mins call' s fuel k'.ins b m' = Y at hs hst' ⊢
      obtain ⟨X1, X2, X3⟩ := X
      obtain ⟨Y1, Y2, Y3⟩ := Y
      rcases hs with ⟨h1, h2⟩ | ⟨h1, h3, h4, h5⟩
      · simp only at h1 h2; subst h1; exact .inl h2
      · simp only at h1 h3 h4 h5 hst hst'
        subst h1
        cases X1 with
        | false => exact .inr h3
        | true =>
          simp only [cond_true]
          obtain ⟨hz, hag2⟩ := h4 rfl
          cases hm : (mstep fuel X3).1 with
          | false => simp only [Bool.false_and, cond_false]; exact .inl (mstep_false hm)
          | true =>
            obtain ⟨a1, a2⟩ := mstep_le h3 hm
            obtain ⟨e1, e2⟩ := mstep_true hm
            obtain ⟨e1', e2'⟩ := mstep_true a1
            rw [a1]
            cases hfin3 : k.fin == 3 with
            | true => exact .inr a2
            | false =>
              simp only [Bool.not_false, Bool.and_self, cond_true]
              rw [← next_agree hfin.2 hag2]
              refine mblk_cut hc hcut hf hcs hcs' n n' _ _ _ _ _ (agree_next hfin.1 hfin3 hag2) (by rw [e2]; exact hz) a2 ?_ ?_ ?_ ?_
              · unfold gasOk at hg; omega
              · unfold gasOk at hg'; omega
              · unfold gasOk at hg ⊢; rw [e2]; dsimp only; omega
              · unfold gasOk at hg' ⊢; rw [e2']; dsimp only; omega
theorem fine_cut {ok : Int → Prop} {f g : BFunc} (h : Cut f g) (hf : Fine ok f) : Fine ok g := by
  obtain ⟨c, x, l1, t, l2, v, h⟩ := h
  have key : ∀ y ∈ g.blocks, y ∈ f.blocks ∨ y = x.mid (l1 ++ l2) := fun y hy => by
    rw [h.hg] at hy
    exact List.mem_or_eq_of_mem_set hy
  have hxm := List.mem_of_getElem? h.hx
  constructor
  · intro y hy u hu
    rcases key y hy with hy | rfl
    · exact hf.ins y hy u hu
    · refine hf.ins x hxm u ?_
      rw [h.hi]
      have hu' : u ∈ l1 ++ l2 := hu
      simp only [List.mem_append, List.mem_cons] at hu' ⊢
      rcases hu' with hu' | hu'
      · exact .inl hu'
      · exact .inr (.inr hu')
  · intro y hy
    rcases key y hy with hy | rfl
    · exact hf.fin y hy
    · exact hf.fin x hxm
theorem mblk_cuts {ok : Int → Prop} (hc : callsSim call call ok) (hc' : callsSim call call' ok) (hcs : ∀ i m, m.steps ≤ (call i m).steps) (hcs' : ∀ i m, m.steps ≤ (call' i m).steps) {f g : BFunc} (h : Cuts f g) (hf : Fine ok f) {n : Nat} {i : Int} {a : List Int} {m : Mach} (h0 : m.fin = 0) (hn : 0 < n) (hg : gasOk fuel n m) {m' : Mach} (hm : m.Le m') (hg' : gasOk fuel n m') :
    (mblk call s fuel f n i a m).Sim (mblk call' s fuel g n i a m') := by
  induction h with
  | refl f => exact mblk_sim hc' (fun x hx t ht ho => (hf.ins x hx t ht).1 ho) hcs hcs' _ _ _ _ _ _ h0 hm hn hn hg hg'
  | step a1 _ ih =>
    have hfg := fine_cut a1 hf
    obtain ⟨c, x, l1, t, l2, v, a1⟩ := a1
    exact (mblk_cut hc a1 hf hcs hcs _ _ _ _ _ _ _ ⟨rfl, fun _ _ => rfl⟩ h0 (Mach.Le.refl _) hn hn hg hg).trans (ih hfg)
end
theorem one_fine {f : BFunc} {n w : Int} (h : f.one n w = true) : Fine (fun j => 0 ≤ j ∧ j < n) f := by
  have hs := one_spec h
  constructor
  · intro x hx t ht
    have ht' := (hs.2.2.2 x hx).2 t ht
    have hI := tacIn_of ht'
    refine ⟨fun ho => by have := hI.call ho; omega, ⟨fun e => (hI.d e).1, fun e => (hI.a e).1, fun e => (hI.b e).1⟩, fun ho => ?_⟩
    simp only [Tac.fits, Bool.and_eq_true] at ht'
    have h5 := ht'.2.2.2.2.1
    unfold Tac.rest at h5
    rw [ho] at h5
    simpa using h5
  · intro x hx
    have he := (hs.2.2.2 x hx).1
    unfold Block.ends at he
    cases e1 : x.fin == 1 with
    | true => exact ⟨.inl (by simpa using e1), fun e => by rw [e] at e1; cases e1⟩
    | false =>
      rw [e1] at he
      cases e2 : x.fin == 2 with
      | true =>
        rw [e2] at he
        simp only [cond_false, cond_true, Bool.and_eq_true, within, decide_eq_true_eq] at he
        exact ⟨.inr (.inl (by simpa using e2)), fun _ => he.2.2.1⟩
      | false =>
        rw [e2] at he
        simp only [cond_false, Bool.and_eq_true, beq_iff_eq] at he
        exact ⟨.inr (.inr he.1), fun e => by rw [he.1] at e; cases e⟩
theorem cut_regs {f g : BFunc} (h : Cuts f g) : g.regs = f.regs ∧ g.blocks.length = f.blocks.length := by
  induction h with
  | refl => exact ⟨rfl, rfl⟩
  | step a _ ih =>
    obtain ⟨c, x, l1, t, l2, v, a⟩ := a
    rw [a.hg] at ih
    exact ⟨ih.1, by rw [ih.2, putB_len]⟩
theorem cut_one {f g : BFunc} {n w : Int} (h : Cut f g) (h1 : f.one n w = true) : g.one n w = true := by
  obtain ⟨c, x, l1, t, l2, v, h⟩ := h
  have hxm := List.mem_of_getElem? h.hx
  have hlen : g.blocks.length = f.blocks.length := by rw [h.hg, putB_len]
  have hreg : g.regs = f.regs := by rw [h.hg]; rfl
  simp only [BFunc.one, Bool.and_eq_true, decide_eq_true_eq, Bool.not_eq_true', List.isEmpty_eq_false_iff, List.all_eq_true] at h1 ⊢
  refine ⟨by rw [hreg]; exact h1.1, by rw [hreg]; exact h1.2.1, fun e => h1.2.2.1 (by rw [← List.length_eq_zero_iff, ← hlen, e]; rfl), fun y hy => ?_⟩
  rw [hlen, hreg]
  rw [h.hg] at hy
  rcases List.mem_or_eq_of_mem_set hy with hy | rfl
  · exact h1.2.2.2 y hy
  · have hx1 := h1.2.2.2 x hxm
    simp only [Block.ok, Bool.and_eq_true, List.all_eq_true] at hx1 ⊢
    refine ⟨hx1.1, fun u hu => hx1.2 u ?_⟩
    rw [h.hi]
    have hu' : u ∈ l1 ++ l2 := hu
    simp only [List.mem_append, List.mem_cons] at hu' ⊢
    rcases hu' with hu' | hu'
    · exact .inl hu'
    · exact .inr (.inr hu')
theorem cuts_one {f g : BFunc} {n w : Int} (h : Cuts f g) (h1 : f.one n w = true) : g.one n w = true := by
  induction h with
  | refl => exact h1
  | step a _ ih => exact ih (cut_one a h1)
theorem dnf_one {f : BFunc} {n w : Int} (h1 : f.one n w = true) : (dnf f).one n w = true := cuts_one (dnf_cuts f) h1
noncomputable def Blocks.dnf (b : Blocks) : Blocks := ⟨b.words, b.funcs.map Sv.dnf⟩
theorem right_dnf {b : Blocks} (h : b.right = true) : b.dnf.right = true := by
  have hr := right_spec h
  simp only [Blocks.right, Bool.and_eq_true, decide_eq_true_eq, Bool.not_eq_true', List.isEmpty_eq_false_iff, List.all_eq_true]
  refine ⟨hr.1, hr.2.1, fun e => hr.2.2.1 (by simpa [Blocks.dnf] using e), fun p hp => ?_⟩
  obtain ⟨k, hk⟩ := List.mem_iff_getElem?.1 hp
  rw [List.getElem?_zipIdx] at hk
  simp only [Blocks.dnf, List.getElem?_map] at hk
  cases hf : b.funcs[k]? with
  | none => rw [hf] at hk; cases hk
  | some f =>
    rw [hf] at hk
    simp at hk
    subst hk
    exact dnf_one (hr.2.2.2 k f hf)
theorem mfun_dnf {b : Blocks} (hb : b.right = true) {s : ByteArray} {fuel : Int} : ∀ (n : Nat) (i : Int) (m m' : Mach), 0 ≤ i → i < b.funcs.length → m.fin = 0 → m.Le m' → (mfun b s fuel n i m).Sim (mfun b.dnf s fuel n i m')
  | 0, _, _, _, _, _, _, h => .inr h
  | n + 1, i, m, m', h1, h2, h0, h => by
    unfold mfun
    have e : b.dnf.funcs[i.toNat]? = (b.funcs[i.toNat]?).map Sv.dnf := List.getElem?_map
    rw [e]
    cases hf : b.funcs[i.toNat]? with
    | none => exact .inr h
    | some f =>
      have hone := (right_spec hb).2.2.2 i.toNat f hf
      have hfi := one_fine hone
      simp only [Option.map_some]
      rw [(cut_regs (dnf_cuts f)).1]
      refine mblk_cuts (ok := fun j => 0 ≤ j ∧ j < (i.toNat : Int)) (fun j m m' hj hz hl => mfun_sim hb n j m m' hj.1 (by omega) hz hl) (fun j m m' hj hz hl => mfun_dnf hb n j m m' hj.1 (by omega) hz hl) (fun j m => mfun_steps n j m) (fun j m => mfun_steps n j m) (dnf_cuts f) hfi h0 (Nat.succ_pos _) ?_ h ?_
      · unfold gasOk; omega
      · unfold gasOk; omega
theorem run_dnf {b : Blocks} (hb : b.right = true) (s : ByteArray) (fuel : Int) :
    (mrun b s fuel).fin = 5 ∨ (mrun b s fuel).fin = (mrun b.dnf s fuel).fin ∧ (mrun b s fuel).out = (mrun b.dnf s fuel).out ∧ (mrun b.dnf s fuel).steps ≤ (mrun b s fuel).steps := by
  have hr := right_spec hb
  have hne : 0 < b.funcs.length := List.length_pos_iff.2 hr.2.2.1
  have key := mfun_dnf hb (s := s) (fuel := fuel0 fuel) b.funcs.length ((b.funcs.length : Int) - 1) (m0 b) (m0 b) (by omega) (by omega) rfl (Mach.Le.refl _)
  have em : m0 b.dnf = m0 b := rfl
  have el : b.dnf.funcs.length = b.funcs.length := List.length_map _
  unfold mrun
  rw [el, em]
  dsimp only
  generalize mfun b s (fuel0 fuel) b.funcs.length ((b.funcs.length : Int) - 1) (m0 b) = X at key ⊢
  generalize mfun b.dnf s (fuel0 fuel) b.funcs.length ((b.funcs.length : Int) - 1) (m0 b) = Y at key ⊢
  rcases key with h | h
  · rw [show (X.fin == 0) = false by rw [h]; rfl]
    exact .inl h
  · rw [h.fin]
    cases X.fin == 0 with
    | true => exact .inr ⟨rfl, h.out.symm, h.steps⟩
    | false => exact .inr ⟨h.fin.symm, h.out.symm, h.steps⟩
end Go.Proofs.Ytjmjmedjjbginaa.Sv

namespace Go.Proofs.Ytjmjmedjjbginaa.Sv
open Go

def mrow (R : Nat) (p : Nat → Bool) : List Bool := (List.range R).map p
theorem mrow_len (R : Nat) (p : Nat → Bool) : (mrow R p).length = R := by simp [mrow]
theorem mrow_get {R : Nat} {p : Nat → Bool} {v : Nat} (h : v < R) : (mrow R p)[v]? = some (p v) := by simp [mrow, h]
theorem mrow_congr {R : Nat} {p q : Nat → Bool} (h : ∀ v, v < R → p v = q v) : mrow R p = mrow R q := by
  unfold mrow
  exact List.map_congr_left fun v hv => h v (List.mem_range.1 hv)
def nd (R : Nat) (x : Block) (p : Nat → Bool) (i : Nat) : List Bool := mrow R (fun v => need v (x.ins.drop i) (endz x v || p v))
noncomputable def inRow (f : BFunc) (c : Nat) : List Bool := mrow f.regs.toNat (fun v => inB f v c)
noncomputable def outRow (f : BFunc) (x : Block) : List Bool := mrow f.regs.toNat (outB f x)
noncomputable def inRows (f : BFunc) : List (List Bool) := (List.range f.blocks.length).map (inRow f)
noncomputable def outRows (f : BFunc) : List (List Bool) := f.blocks.map (outRow f)
structure BFunc.sane (f : BFunc) : Prop where
  regs : 0 ≤ f.regs
  low : ∀ x ∈ f.blocks, ∀ t ∈ x.ins, t.inR f.regs
  fin : ∀ x ∈ f.blocks, x.fin = 2 → 0 ≤ x.v ∧ x.v < f.regs
  next : ∀ x ∈ f.blocks, ∀ d ∈ x.nexts, 0 ≤ d ∧ d < f.blocks.length
abbrev BB := Nat → Nat → Bool
def SoundI (f : BFunc) (I : BB) : Prop := ∀ b v, I b v = true → LiveIn f v b
def SoundO (f : BFunc) (O : BB) : Prop := ∀ b v, O b v = true → ∃ x, f.blocks[b]? = some x ∧ outB f x v = true
def ClosedAt (f : BFunc) (R : Nat) (I O : BB) (b : Nat) : Prop := ∀ x, f.blocks[b]? = some x → ∀ v, v < R → (∀ d ∈ x.nexts, I d.toNat v = true → O b v = true) ∧ (need v x.ins (endz x v || O b v) = true → I b v = true)
def falses (n R : Nat) (I : BB) : Nat := ((List.range n).map fun b => ((List.range R).map fun v => if I b v then 0 else 1).sum).sum
def putBB (I : BB) (b v : Nat) (z : Bool) : BB := fun b' v' => if b' = b ∧ v' = v then z else I b' v'
theorem sum_lt {n : Nat} {p q : Nat → Nat} (h : ∀ k, k < n → p k ≤ q k) {j : Nat} (hj : j < n) (hlt : p j < q j) : ((List.range n).map p).sum < ((List.range n).map q).sum := by
  induction n with
  | zero => omega
  | succ n ih =>
    rw [List.range_succ, List.map_append, List.map_append, List.sum_append, List.sum_append]
    simp only [List.map_cons, List.map_nil, List.sum_cons, List.sum_nil]
    have hle : ∀ m, m ≤ n → ((List.range m).map p).sum ≤ ((List.range m).map q).sum := by
      intro m
      induction m with
      | zero => intro _; exact Nat.le_refl _
      | succ m im =>
        intro hm
        rw [List.range_succ, List.map_append, List.map_append, List.sum_append, List.sum_append]
        simp only [List.map_cons, List.map_nil, List.sum_cons, List.sum_nil]
        have := im (by omega); have := h m (by omega); omega
    have h1 := h n (by omega)
    by_cases hjn : j = n
    · subst hjn; have := hle j (Nat.le_refl _); omega
    · have := ih (fun k hk => h k (by omega)) (by omega); omega
theorem falses_put {n R : Nat} {I : BB} {b v : Nat} (hb : b < n) (hv : v < R) (h : I b v = false) : falses n R (putBB I b v true) < falses n R I := by
  unfold falses
  have hp : ∀ b' v', (if putBB I b v true b' v' then 0 else 1) ≤ (if I b' v' then 0 else 1 : Nat) := fun b' v' => by
    unfold putBB
    split
    · simp
    · split <;> simp_all
  have hsum : ∀ (m : Nat) (p q : Nat → Nat), (∀ k, p k ≤ q k) → ((List.range m).map p).sum ≤ ((List.range m).map q).sum := fun m p q hpq => by
    induction m with
    | zero => exact Nat.le_refl _
    | succ m im =>
      rw [List.range_succ, List.map_append, List.map_append, List.sum_append, List.sum_append]
      simp only [List.map_cons, List.map_nil, List.sum_cons, List.sum_nil]
      have := hpq m; omega
  refine sum_lt (fun k _ => hsum R _ _ (hp k)) hb ?_
  refine sum_lt (fun k _ => hp b k) hv ?_
  unfold putBB
  simp [h]
theorem soundI_need {f : BFunc} {I O : BB} (hO : SoundO f O) {b v : Nat} {x : Block} (hx : f.blocks[b]? = some x) (hn : need v x.ins (endz x v || O b v) = true) : LiveIn f v b := by
  rw [← inB_iff, inB_eq hx]
  refine need_mono (fun e => ?_) hn
  unfold endB
  rw [Bool.or_eq_true] at e ⊢
  rcases e with e | e
  · exact .inl e
  · obtain ⟨y, hy, h⟩ := hO b v e
    rw [hx] at hy; cases hy; exact .inr h
theorem soundO_put {f : BFunc} {I O : BB} (hI : SoundI f I) (hO : SoundO f O) {b v : Nat} {x : Block} {d : Int} (hx : f.blocks[b]? = some x) (hd : d ∈ x.nexts) : SoundO f (putBB O b v (O b v || I d.toNat v)) := by
  intro b' v' h
  unfold putBB at h
  split at h
  · rename_i e
    obtain ⟨rfl, rfl⟩ := e
    rw [Bool.or_eq_true] at h
    rcases h with h | h
    · exact hO _ _ h
    · exact ⟨x, hx, outB_iff.2 ⟨d, hd, hI _ _ h⟩⟩
  · exact hO _ _ h
theorem soundI_put {f : BFunc} {I : BB} (hI : SoundI f I) {b v : Nat} (h : LiveIn f v b) : SoundI f (putBB I b v true) := by
  intro b' v' h'
  unfold putBB at h'
  split at h'
  · rename_i e
    obtain ⟨rfl, rfl⟩ := e
    exact h
  · exact hI _ _ h'
theorem closed_in {f : BFunc} (hs : f.sane) {I O : BB} (hI : SoundI f I) (hO : SoundO f O) (hc : ∀ b, b < f.blocks.length → ClosedAt f f.regs.toNat I O b) {b v : Nat} (hb : b < f.blocks.length) (hv : v < f.regs.toNat) : I b v = inB f v b := by
  rw [Bool.eq_iff_iff, inB_iff]
  refine ⟨hI b v, fun h => ?_⟩
  refine live_least (I := fun b => I b v) (fun c x hx hn => ?_) h
  have hcl := hc c (List.getElem?_eq_some_iff.1 hx).1 x hx v hv
  refine hcl.2 (need_mono (fun e => ?_) hn)
  rw [Bool.or_eq_true] at e ⊢
  rcases e with e | e
  · exact .inl e
  · obtain ⟨d, h1, h2⟩ := List.any_eq_true.1 e
    exact .inr (hcl.1 d h1 h2)
theorem closed_out {f : BFunc} (hs : f.sane) {I O : BB} (hI : SoundI f I) (hO : SoundO f O) (hc : ∀ b, b < f.blocks.length → ClosedAt f f.regs.toNat I O b) {b v : Nat} {x : Block} (hx : f.blocks[b]? = some x) (hv : v < f.regs.toNat) : O b v = outB f x v := by
  have hb := (List.getElem?_eq_some_iff.1 hx).1
  rw [Bool.eq_iff_iff, outB_iff]
  constructor
  · intro h
    obtain ⟨y, hy, h'⟩ := hO b v h
    rw [hx] at hy; cases hy
    exact outB_iff.1 h'
  · rintro ⟨d, h1, h2⟩
    have hd := hs.next x (List.mem_of_getElem? hx) d h1
    have := closed_in hs hI hO hc (b := d.toNat) (v := v) (by omega) hv
    exact (hc b hb x hx v hv).1 d h1 (by rw [this]; exact inB_iff.2 h2)
end Go.Proofs.Ytjmjmedjjbginaa.Sv

namespace Go.Proofs.Ytjmjmedjjbginaa.Sv
open Go

theorem hput_skip {h : AHeap} {b x : Nat} {o : AObj} {r : Option AObj} (hb : Nat.beq x b = false) (hr : h x = r) : hput h b o x = r := by simp only [hput, hb, cond_false, hr]
section
variable {P : Program} {T : Nat → Option TyI} {o : Oper} {e : AEnv} {h : AHeap}
def OLocE (P : Program) (o : Oper) (e : AEnv) (h : AHeap) (R : List Nat) (S : List (Nat × AObj) → AV → Prop) : Prop :=
  ∀ (H : Know) (ι : Lay) (a : Act) (w : World) (s : AState) (Q : Exit → Act → World → Prop), Sim H ι s a w →
    (∀ x ∈ o.op.operands, look s.env x = look e x) → (∀ b ∈ R, s.h b = h b) →
    o.wp P a w (fun a' w' => ∃ W r v H' ι', S W r ∧ a' = a.put o.dst v ∧ Rel H' ι' r v ∧ HeapRel H' ι' (hputs s.h W) w' ∧ Step H ι s.h w H' ι' (hputs s.h W) w') Q

theorem AOps.ex {ops : Array Oper} {rest : List Oper} {n : Nat} {K : AState → Prop} (d : Nat) {R : List Nat} {S : List (Nat × AObj) → AV → Prop} (hd : o.dst = some d) (hb : Nat.blt d n = true) (hg : guardIs ops o e = some true) (ho : OLocE P o e h R S)
    (hr : ∀ W r, S W r → AOps P ops rest ⟨n, eput e d r, hputs h W⟩ K) : AOps P ops (o :: rest) ⟨n, e, h⟩ K := by
  intro H ι a w hs
  unfold wpList
  rw [guard_wanted hs hg]
  simp only [if_true]
  refine .inl (Oper.wp_mono (fun a' w' hx => ?_) (ho H ι a w ⟨n, e, h⟩ _ hs (fun _ _ => rfl) (fun _ _ => rfl)))
  obtain ⟨W, r, v, H', ι', hS, rfl, h1, h2, h3⟩ := hx
  have hs' := hs.put (d := o.dst) (r := some r) h2 h3 (fun x ex => by cases ex; exact h1) (lt_of hd hb)
  rw [hd] at hs' ⊢
  have := hr W r hS H' ι' _ w' hs'
  have key : ∀ (l : List Oper) (a1 : Act) (w1 : World), wpList P ops (Post H' ι' (hputs h W) w' (Then K fun _ _ => False)) l a1 w1 → wpList P ops (Post H ι h w (Then K fun _ _ => False)) l a1 w1 := by
    have hpost : ∀ e a2 w2, Post H' ι' (hputs h W) w' (Then K fun _ _ => False) e a2 w2 → Post H ι h w (Then K fun _ _ => False) e a2 w2 := fun e a2 w2 hp => Post.step hs.heap h2 h3 hp
    intro l
    induction l with
    | nil => exact fun a1 w1 hp => hpost _ _ _ hp
    | cons o' l ih =>
      intro a1 w1 hp
      unfold wpList at hp ⊢
      by_cases hw : Region.wanted o' (yielded ops a1.tmps) = true
      · rw [if_pos hw] at hp ⊢
        rcases hp with hp | ⟨hp1, a2, w2, hp2⟩
        · refine .inl ?_
          have hp' := Oper.wp_mono (fun a2 w2 => ih a2 w2) hp
          clear hp
          unfold Oper.wp at hp' ⊢
          generalize (execOp a1.eval o').run P w1 = res at hp' ⊢
          cases res with
          | ok n w3 =>
            cases n <;> simp only [Oper.upon] at hp' ⊢ <;> first
              | exact hp'
              | exact Calls.mono hp' (fun e w4 he => by cases e <;> first | exact he | exact hpost _ _ _ he | (obtain ⟨a3, w5, hp3⟩ := he; exact ⟨a3, w5, hpost _ _ _ hp3⟩))
          | halt x w3 => cases x <;> simp only [Oper.upon] at hp' ⊢ <;> first | exact hpost _ _ _ hp' | exact hp'
        · exact .inr ⟨hp1, a2, w2, hpost _ _ _ hp2⟩
      · rw [if_neg hw] at hp ⊢
        exact ih _ _ hp
  exact key _ _ _ this

end
end Go.Proofs.Ytjmjmedjjbginaa.Sv

namespace Go.Proofs.Ytjmjmedjjbginaa.Sv
open Go

def hresK (h : AHeap) (κ : Nat → Bool) : AHeap := fun b => bif κ b then h b else some .free
def lmixK (ι ι' : Lay) (κ : Nat → Bool) : Lay := fun b => bif κ b then ι' b else ι b

theorem call_mixK {H : Know} {ι : Lay} {h : AHeap} {w : World} {κ : Nat → Bool} {hn : AHeap} {H' : Know} {ι' : Lay} {h' : AHeap} {w' : World} (hr : HeapRel H ι h w)
    (hL : ∀ b, κ b = true → ∃ o, h b = some o ∧ o.avoid κ = true) (hW : ∀ b, κ b = false → hn b = h b)
    (hk : ∀ b, κ b = true → ∃ o, h' b = some o ∧ hn b = some o ∧ o.avoid κ = true)
    (hr' : HeapRel H' ι' h' w') (hst : Step H (lcut ι κ) (hresK h κ) w H' ι' h' w') :
    HeapRel H' (lmixK ι ι' κ) (hn) w' ∧ Step H ι h w H' (lmixK ι ι' κ) (hn) w' := by
  have mT : ∀ b, κ b = true → lmixK ι ι' κ b = ι' b := fun b hb => by simp only [lmixK, hb, cond_true]
  have mF : ∀ b, ¬ κ b = true → lmixK ι ι' κ b = ι b := fun b hb => by
    have : κ b = false := by cases e : κ b with | false => rfl | true => exact absurd e hb
    simp only [lmixK, this, cond_false]
  have cT : ∀ b, κ b = true → lcut ι κ b = ι b := fun b hb => lcut_lt hb
  have rT : ∀ b, κ b = true → hresK h κ b = h b := fun b hb => by simp only [hresK, hb, cond_true]
  have rF : ∀ b, ¬ κ b = true → hresK h κ b = some .free := fun b hb => by
    have : κ b = false := by cases e : κ b with | false => rfl | true => exact absurd e hb
    simp only [hresK, this, cond_false]
  have wF : ∀ b, ¬ κ b = true → hn b = h b := fun b hb => hW b (by cases e : κ b with | false => rfl | true => exact absurd e hb)
  have own : ∀ rb, Owned (hresK h κ) (lcut ι κ) rb → Owned h ι rb := by
    rintro rb ⟨b, o, r, h1, h2, h3, h4, h5⟩
    by_cases hb : κ b = true
    · exact ⟨b, o, r, by rw [← rT b hb]; exact h1, h2, lcut_some h3, h4, h5⟩
    · rw [rF b hb] at h1; cases h1; cases h2
  -- rows that the call didn't see are none of its
  have apart : ∀ b o r, ¬ κ b = true → h b = some o → o.alive = true → ι b = some r → r.solid → ¬ Owned (hresK h κ) (lcut ι κ) r.rb := by
    rintro b o r hb h1 h2 h3 h4 ⟨b', o', r', g1, g2, g3, g4, g5⟩
    by_cases hb' : κ b' = true
    · exact hr.inj b b' o o' r r' h1 h2 (by rw [← rT b' hb']; exact g1) g2 h3 (lcut_some g3) h4 g4 (fun e => hb (e ▸ hb')) g5.symm
    · rw [rF b' hb'] at g1; cases g1; cases g2
  have lle : LLe ι (lmixK ι ι' κ) := fun b r e => by
    by_cases hb : κ b = true
    · rw [mT b hb]; exact hst.lle b r (by rw [cT b hb]; exact e)
    · rw [mF b hb]; exact ⟨r, e, .inl rfl⟩
  have lle' : LLe (lcut ι' κ) (lmixK ι ι' κ) := fun b r e => by
    by_cases hb : κ b = true
    · rw [mT b hb]; exact ⟨r, lcut_some e, .inl rfl⟩
    · have : κ b = false := by cases e : κ b with | false => rfl | true => exact absurd e hb
      simp only [lcut, this, cond_false] at e; cases e
  have blk : ∀ b o r, ¬ κ b = true → h b = some o → o.alive = true → ι b = some r → r.solid → w'.heap[r.rb]? = w.heap[r.rb]? := fun b o r hb h1 h2 h3 h4 =>
    hst.keep r.rb (hr.lt ⟨b, o, r, h1, h2, h3, h4, rfl⟩) (apart b o r hb h1 h2 h3 h4)
  have noK : ∀ b o r, ¬ κ b = true → h b = some o → o.alive = true → ι b = some r → r.solid → H r.rb = none → H' r.rb = none := fun b o r hb h1 h2 h3 h4 h5 => by
    cases e : H' r.rb with
    | none => rfl
    | some c =>
      rcases hst.knew r.rb (by rw [e]; simp) with g | g | g
      · exact absurd h5 g
      · have := hr.lt ⟨b, o, r, h1, h2, h3, h4, rfl⟩; omega
      · exact absurd g (apart b o r hb h1 h2 h3 h4)
  -- a row of the call's, afterwards: not one of those that it didn't see
  have apart' : ∀ b b' o r r', ¬ κ b = true → κ b' = true → h b = some o → o.alive = true → ι b = some r → r.solid → ι' b' = some r' → r'.solid → r.rb ≠ r'.rb := fun b b' o r r' hb hb' h1 h2 h3 h4 g1 g2 e => by
    have alive' : ∀ r0, ι b' = some r0 → r0.solid → r0.rb = r'.rb → False := fun r0 e0 es e1 => by
      obtain ⟨o0, k1, _⟩ := hL b' hb'
      have ka : o0.alive = true := by
        cases o0 with
        | free => rw [hr.free b' k1] at e0; cases e0
        | _ => rfl
      exact hr.inj b b' o o0 r r0 h1 h2 k1 ka h3 e0 h4 es (fun e => hb (e ▸ hb')) (e.trans e1.symm)
    rcases hst.newrb b' r' g1 g2 with k | k | ⟨r0, k1, k2, k3⟩
    · exact alive' r' (lcut_some k) g2 rfl
    · have := hr.lt ⟨b, o, r, h1, h2, h3, h4, rfl⟩; omega
    · exact alive' r0 (lcut_some k1) k2 k3
  refine ⟨⟨hr'.know, fun b hb => ?_, fun b o h1 h2 => ?_, fun b b' o o' r r' h1 h2 h3 h4 h5 h6 s1 s2 hne => ?_, hr'.glob⟩, ⟨hst.size, hst.os, hst.out, fun rb hlt hno => hst.keep rb hlt (fun h => hno (own rb h)), hst.kle, fun b hb => ?_, lle, fun b e => ?_, fun b r' e es => ?_, fun b e => ?_⟩⟩
  · by_cases hbL : κ b = true
    · obtain ⟨o, k1, k2, _⟩ := hk b hbL
      rw [k2] at hb; cases hb
      rw [mT b hbL]; exact hr'.free b k1
    · rw [wF b hbL] at hb; rw [mF b hbL]; exact hr.free b hb
  · by_cases hbL : κ b = true
    · obtain ⟨o', k1, k2, k3⟩ := hk b hbL
      rw [k2] at h1; cases h1
      obtain ⟨r, r1, r2, r3⟩ := hr'.obj b o k1 h2
      exact ⟨r, by rw [mT b hbL]; exact r1, (objOk_cut r2 k3).mono (KLe.refl _) lle' (fun _ => rfl), r3⟩
    · rw [wF b hbL] at h1
      obtain ⟨r, r1, r2, r3⟩ := hr.obj b o h1 h2
      exact ⟨r, by rw [mF b hbL]; exact r1, r2.mono hst.kle lle (fun hs => blk b o r hbL h1 h2 r1 hs), fun hs => noK b o r hbL h1 h2 r1 hs (r3 hs)⟩
  · by_cases hb : κ b = true <;> by_cases hb' : κ b' = true
    · obtain ⟨q, k1, k2, _⟩ := hk b hb
      obtain ⟨q', k1', k2', _⟩ := hk b' hb'
      rw [k2] at h1; cases h1
      rw [k2'] at h3; cases h3
      rw [mT b hb] at h5; rw [mT b' hb'] at h6
      exact hr'.inj b b' _ _ r r' k1 h2 k1' h4 h5 h6 s1 s2 hne
    · rw [wF b' hb'] at h3; rw [mF b' hb'] at h6; rw [mT b hb] at h5
      exact fun e => apart' b' b o' r' r hb' hb h3 h4 h6 s2 h5 s1 e.symm
    · rw [wF b hb] at h1; rw [mF b hb] at h5; rw [mT b' hb'] at h6
      exact apart' b b' o r r' hb hb' h1 h2 h5 s1 h6 s2
    · rw [wF b hb] at h1; rw [mF b hb] at h5; rw [wF b' hb'] at h3; rw [mF b' hb'] at h6
      exact hr.inj b b' o o' r r' h1 h2 h3 h4 h5 h6 s1 s2 hne
  · rcases hst.knew b hb with g | g | g
    · exact .inl g
    · exact .inr (.inl g)
    · exact .inr (.inr (own b g))
  · by_cases hb : κ b = true
    · obtain ⟨o, k1, _⟩ := hL b hb; rw [k1] at e; cases e
    · exact mF b hb
  · by_cases hb : κ b = true
    · rw [mT b hb] at e
      rcases hst.newrb b r' e es with k | k | ⟨r0, k1, k2, k3⟩
      · exact .inl (lcut_some k)
      · exact .inr (.inl k)
      · exact .inr (.inr ⟨r0, lcut_some k1, k2, k3⟩)
    · rw [mF b hb] at e; exact .inl e
  · by_cases hb : κ b = true
    · obtain ⟨o, k1, _⟩ := hL b hb; rw [k1] at e; cases e
    · rw [wF b hb]; exact e


def EDropK (k : Nat → Bool) (e' e : AEnv) : Prop := ∀ t x, e' t = some x → e t = some x ∧ x.avoid k = true
def HDropK (k : Nat → Bool) (h' h : AHeap) : Prop := ∀ b o, h' b = some o → (h b = some o ∧ (o.alive = true → k b = true ∧ o.avoid k = true)) ∨ (o = .free ∧ k b = false)

theorem EDropK.new (k : Nat → Bool) (e : AEnv) : EDropK k eNew e := fun _ _ h => by cases h
theorem EDropK.put {k : Nat → Bool} {e' e : AEnv} {t : Nat} {v : AV} (h : EDropK k e' e) (hv : e t = some v) (ha : v.avoid k = true) : EDropK k (eput e' t v) e := fun u x hx => by
  by_cases hu : u = t
  · subst hu; rw [eput_same] at hx; cases hx; exact ⟨hv, ha⟩
  · rw [eput_ne _ _ hu] at hx; exact h u x hx
theorem HDropK.none (k : Nat → Bool) (h : AHeap) : HDropK k hNone h := fun _ _ h => by cases h
theorem HDropK.put {k : Nat → Bool} {h' h : AHeap} {b : Nat} {o : AObj} (hh : HDropK k h' h) (ho : h b = some o) (hb : k b = true) (ha : o.avoid k = true) : HDropK k (hput h' b o) h := fun c x hx => by
  by_cases hc : c = b
  · subst hc; rw [hput_same] at hx; cases hx; exact .inl ⟨ho, fun _ => ⟨hb, ha⟩⟩
  · rw [hput_ne _ _ hc] at hx; exact hh c x hx
structure DropK (k : Nat → Bool) (s'' s' : AState) : Prop where
  n : s''.n = s'.n
  e : EDropK k s''.env s'.env
  h : HDropK k s''.h s'.h
theorem DropK.mk' {k : Nat → Bool} {n : Nat} {e' e : AEnv} {h' h : AHeap} (h1 : EDropK k e' e) (h2 : HDropK k h' h) : DropK k ⟨n, e', h'⟩ ⟨n, e, h⟩ := ⟨rfl, h1, h2⟩

theorem Sim.cutK {H : Know} {ι : Lay} {s s' : AState} {a : Act} {w : World} {k : Nat → Bool} (hs : Sim H ι s a w) (hd : DropK k s' s) : Sim H (lcut ι k) s' a w := by
  have hal : ∀ b o, s'.h b = some o → o.alive = true → s.h b = some o ∧ k b = true ∧ o.avoid k = true := fun b o h1 h2 => by
    rcases hd.h b o h1 with ⟨g1, g2⟩ | ⟨g1, _⟩
    · exact ⟨g1, g2 h2⟩
    · subst g1; cases h2
  refine ⟨hs.n.trans hd.n.symm, hs.d, fun t x hx => ?_, ⟨hs.heap.know, fun b hb => ?_, fun b o h1 h2 => ?_, fun b b' o o' r r' h1 h2 h3 h4 h5 h6 => ?_, hs.heap.glob⟩⟩
  · obtain ⟨g1, g2⟩ := hd.e t x hx
    obtain ⟨v, v1, v2⟩ := hs.env t x g1
    exact ⟨v, v1, avoid_rel v2 g2⟩
  · rcases hd.h b _ hb with ⟨g1, _⟩ | ⟨_, g2⟩
    · have := hs.heap.free b g1
      unfold lcut; rw [this]; cases k b <;> rfl
    · unfold lcut; rw [show k b = false from g2]; rfl
  · obtain ⟨g1, g2, g3⟩ := hal b o h1 h2
    obtain ⟨r, r1, r2, r3⟩ := hs.heap.obj b o g1 h2
    exact ⟨r, by rw [lcut_lt (k := k) g2]; exact r1, objOk_cut r2 g3, r3⟩
  · exact hs.heap.inj b b' o o' r r' (hal b o h1 h2).1 h2 (hal b' o' h3 h4).1 h4 (lcut_some h5) (lcut_some h6)

theorem Step.cutK {H : Know} {ι : Lay} {h h1 h' : AHeap} {w : World} {H' : Know} {ι' : Lay} {w' : World} {k : Nat → Bool} (hr : HeapRel H ι h w) (hf : ∀ b, k b = false → h b = some .free)
    (st : Step H ι h w H' ι' h1 w') (hd : HDropK k h' h1) : Step H ι h w H' (lcut ι' k) h' w' where
  size := st.size
  os := st.os
  out := st.out
  keep := st.keep
  kle := st.kle
  knew := st.knew
  lle := fun b r e => by
    cases hb : k b with
    | false => rw [hr.free b (hf b hb)] at e; cases e
    | true => rw [lcut_lt (k := k) hb]; exact st.lle b r e
  lframe := fun b e => by
    cases hb : k b with
    | false => rw [hf b hb] at e; cases e
    | true => rw [lcut_lt (k := k) hb]; exact st.lframe b e
  newrb := fun b r' e => st.newrb b r' (lcut_some e)
  dom := fun b e => by
    have e1 := st.dom b e
    cases e2 : h' b with
    | none => rfl
    | some o =>
      rcases hd b o e2 with ⟨g, _⟩ | ⟨_, g⟩
      · rw [g] at e1; cases e1
      · rw [hf b g] at e; cases e


section
variable {P : Program} {s : AState} {Q : Exit → AState → Prop}
theorem AGo.cutK {c : Code} {K : AState → Prop} (k : Nat → Bool) (hf : ∀ b, k b = false → s.h b = some .free) (h : AGo P c s (Then (fun s1 => ∃ s2, DropK k s2 s1 ∧ K s2) Q)) : AGo P c s (Then K Q) := fun H ι a w hs =>
  wp_mono (h H ι a w hs) fun e a' w' hp => by
    obtain ⟨s', H', ι', q, r, t⟩ := hp
    cases e with
    | normal =>
      obtain ⟨s2, d, k2⟩ := q
      exact ⟨s2, H', _, k2, r.cutK d, t.cutK hs.heap hf d.h⟩
    | _ => exact ⟨s', H', ι', q, r, t⟩
theorem AGo.loopK {γ : Type} {c : Code} (k : Nat → Bool) (inv : γ → AState) (F : γ → Prop) (μ : γ → Nat) (g0 : γ) (h0 : Sub (inv g0) s) (hF : F g0) (hf : ∀ g b, k b = false → (inv g).h b = some .free)
    (round : ∀ g, F g → AGo P c (inv g) (Then (fun s' => ∃ g', DropK k (inv g') s' ∧ F g' ∧ μ g' < μ g) Q)) : AGo P (.loop c) s Q :=
  AGo.loopI inv F μ g0 h0 hF fun g hg => AGo.cutK k (hf g) ((round g hg).mono fun e s'' hq => by
    cases e with
    | normal => obtain ⟨g', h1, h2, h3⟩ := hq; exact ⟨inv g', h1, g', Sub.refl _, h2, h3⟩
    | _ => exact hq)
def NoGoto (Q : Exit → AState → Prop) : Exit → AState → Prop
  | .goto _, _ => False
  | e, s => Q e s
theorem AGo.scope {c : Code} (h : AGo P c s (NoGoto Q)) : AGo P (.scope c) s Q := fun H ι a w hs =>
  wp_scope_straight (wp_mono (h H ι a w hs) fun e a' w' hp => by
    obtain ⟨s', H', ι', q, r, t⟩ := hp
    cases e with
    | goto l => exact q.elim
    | _ => exact ⟨s', H', ι', q, r, t⟩)
end

section
variable {P : Program} {T : Nat → Option TyI} {o : Oper} {e : AEnv} {h : AHeap}
def OCall (P : Program) (o : Oper) (e : AEnv) (h hn : AHeap) (r : AV) : Prop :=
  ∀ (H : Know) (ι : Lay) (a : Act) (w : World) (n : Nat) (Q : Exit → Act → World → Prop), Sim H ι ⟨n, e, h⟩ a w →
    o.wp P a w (fun a' w' => ∃ v H' ι', a' = a.put o.dst v ∧ Rel H' ι' r v ∧ HeapRel H' ι' hn w' ∧ Step H ι h w H' ι' hn w') Q
theorem o_callK {f : FuncId} {fn : Func} {args : Array Operand} {tys : Array TypeId} {xs : List AV} {r : AV} {hc hw hn : AHeap} (κ : Nat → Bool) (ho : o.op = .call { callee := .value (.func f), args := args, argTypes := tys }) (hf : P.funcs[f]? = some fn) (hnm : (fn.name == "runtime.NumGoroutine") = false) (hb : fn.body.isSome = true)
    (hx : lookAll e args.toList = some xs) (hxa : xs.all (AV.avoid κ) = true) (hL : ∀ b, κ b = true → ∃ q, h b = some q ∧ q.avoid κ = true) (hres' : hresK h κ = hc) (hW : ∀ b, κ b = false → hn b = h b)
    (hk : ∀ b, κ b = true → ∃ q, hw b = some q ∧ hn b = some q ∧ q.avoid κ = true) (hra : r.avoid κ = true)
    (hcall : ACall P f xs hc (fun r' h' => r' = r ∧ HSub hw h')) : OCall P o e h hn r := by
  intro H ι a w n Q hs
  have hraa := relAll_map hs hx
  have hra' : RelAll H (lcut ι κ) xs (args.map a.eval) := ⟨hraa.1, fun j x v h1 h2 => avoid_rel (hraa.2 j x v h1 h2) (all_get hxa h1)⟩
  have hrc : HeapRel H (lcut ι κ) (hresK h κ) w := by
    have key : ∀ b o, hresK h κ b = some o → o.alive = true → κ b = true ∧ h b = some o := fun b o h1 h2 => by
      unfold hresK at h1
      cases e : κ b with
      | true => rw [e] at h1; exact ⟨rfl, h1⟩
      | false => rw [e] at h1; cases h1; cases h2
    refine ⟨hs.heap.know, fun b hb => ?_, fun b o h1 h2 => ?_, fun b b' o o' r r' h1 h2 h3 h4 h5 h6 => ?_, hs.heap.glob⟩
    · unfold hresK at hb
      unfold lcut
      cases e : κ b with
      | true => rw [e] at hb; exact hs.heap.free b hb
      | false => rfl
    · obtain ⟨k1, k2⟩ := key b o h1 h2
      obtain ⟨r, r1, r2, r3⟩ := hs.heap.obj b o k2 h2
      obtain ⟨q, q1, q2⟩ := hL b k1
      rw [k2] at q1; cases q1
      exact ⟨r, by rw [lcut_lt k1]; exact r1, objOk_cut r2 q2, r3⟩
    · exact hs.heap.inj b b' o o' r r' (key b o h1 h2).2 h2 (key b' o' h3 h4).2 h4 (lcut_some h5) (lcut_some h6)
  have hcalls := hcall H (lcut ι κ) w _ hra' (hres' ▸ hrc)
  have hexec : (execOp a.eval o).run P w = .ok (.enter f (args.map a.eval)) w := by
    simp [execOp, ho, resolve, Act.eval, Deferred.ofValue, invoke, run_callFunc hf hnm hb]
  unfold Oper.wp
  rw [hexec]
  refine hcalls.mono fun en w' hh => ?_
  obtain ⟨v, r', h', H', ι', rfl, ⟨rfl, hsub⟩, k1, k2, k3⟩ := hh
  have hk' : ∀ b, κ b = true → ∃ q, h' b = some q ∧ hn b = some q ∧ q.avoid κ = true := fun b hb => by
    obtain ⟨q, q1, q2, q3⟩ := hk b hb
    exact ⟨q, hsub b q q1, q2, q3⟩
  obtain ⟨u1, u2⟩ := call_mixK hs.heap hL hW hk' k2 (hres'.symm ▸ k3)
  refine ⟨v, H', _, rfl, ?_, u1, u2⟩
  refine (avoid_rel k1 hra).mono (KLe.refl _) fun b r e => ?_
  cases hb : κ b with
  | true => exact ⟨r, by simp only [lmixK, hb, cond_true]; exact lcut_some e, .inl rfl⟩
  | false => simp only [lcut, hb, cond_false] at e; cases e

theorem AOps.call {ops : Array Oper} {rest : List Oper} {n : Nat} {K : AState → Prop} (d : Nat) {hn : AHeap} {r : AV} (hd : o.dst = some d) (hb : Nat.blt d n = true) (hg : guardIs ops o e = some true) (ho : OCall P o e h hn r)
    (hr : AOps P ops rest ⟨n, eput e d r, hn⟩ K) : AOps P ops (o :: rest) ⟨n, e, h⟩ K := by
  intro H ι a w hs
  unfold wpList
  rw [guard_wanted hs hg]
  simp only [if_true]
  refine .inl (Oper.wp_mono (fun a' w' hx => ?_) (ho H ι a w n _ hs))
  obtain ⟨v, H', ι', rfl, h1, h2, h3⟩ := hx
  have hs' := hs.put (d := o.dst) (r := some r) h2 h3 (fun x ex => by cases ex; exact h1) (lt_of hd hb)
  rw [hd] at hs' ⊢
  have := hr H' ι' _ w' hs'
  have key : ∀ (l : List Oper) (a1 : Act) (w1 : World), wpList P ops (Post H' ι' hn w' (Then K fun _ _ => False)) l a1 w1 → wpList P ops (Post H ι h w (Then K fun _ _ => False)) l a1 w1 := by
    have hpost : ∀ e a2 w2, Post H' ι' hn w' (Then K fun _ _ => False) e a2 w2 → Post H ι h w (Then K fun _ _ => False) e a2 w2 := fun e a2 w2 hp => Post.step hs.heap h2 h3 hp
    intro l
    induction l with
    | nil => exact fun a1 w1 hp => hpost _ _ _ hp
    | cons o' l ih =>
      intro a1 w1 hp
      unfold wpList at hp ⊢
      by_cases hw : Region.wanted o' (yielded ops a1.tmps) = true
      · rw [if_pos hw] at hp ⊢
        rcases hp with hp | ⟨hp1, a2, w2, hp2⟩
        · refine .inl ?_
          have hp' := Oper.wp_mono (fun a2 w2 => ih a2 w2) hp
          clear hp
          unfold Oper.wp at hp' ⊢
          generalize (execOp a1.eval o').run P w1 = res at hp' ⊢
          cases res with
          | ok n w3 =>
            cases n <;> simp only [Oper.upon] at hp' ⊢ <;> first
              | exact hp'
              | exact Calls.mono hp' (fun e w4 he => by cases e <;> first | exact he | exact hpost _ _ _ he | (obtain ⟨a3, w5, hp3⟩ := he; exact ⟨a3, w5, hpost _ _ _ hp3⟩))
          | halt x w3 => cases x <;> simp only [Oper.upon] at hp' ⊢ <;> first | exact hpost _ _ _ hp' | exact hp'
        · exact .inr ⟨hp1, a2, w2, hpost _ _ _ hp2⟩
      · rw [if_neg hw] at hp ⊢
        exact ih _ _ hp
  exact key _ _ _ this
theorem o_callP {f : FuncId} {fn : Func} {args : Array Operand} {tys : Array TypeId} {xs : List AV} {r : AV} (R : List Nat) (W : List (Nat × AObj)) (ho : o.op = .call { callee := .value (.func f), args := args, argTypes := tys }) (hf : P.funcs[f]? = some fn) (hnm : (fn.name == "runtime.NumGoroutine") = false) (hb : fn.body.isSome = true)
    (hx : lookAll e args.toList = some xs) (hcall : ∀ h' : AHeap, (∀ b ∈ R, h' b = h b) → ACall P f xs h' (fun r' h'' => r' = r ∧ h'' = hputs h' W)) : OLoc P o e h R W (some r) := by
  intro H ι a w s Q hs g1 g2
  have hx' : lookAll s.env args.toList = some xs := by
    rw [lookAll_agree (e := e) (fun x hx => g1 x (by rw [ho]; simp [Op.operands, Call.operands]; exact .inr (by simpa using hx)))]; exact hx
  have hcalls := hcall s.h g2 H ι w _ (relAll_map hs hx') hs.heap
  have hexec : (execOp a.eval o).run P w = .ok (.enter f (args.map a.eval)) w := by
    simp [execOp, ho, resolve, Act.eval, Deferred.ofValue, invoke, run_callFunc hf hnm hb]
  unfold Oper.wp
  rw [hexec]
  refine hcalls.mono fun en w' hh => ?_
  obtain ⟨v, r', h', H', ι', rfl, ⟨rfl, rfl⟩, k1, k2, k3⟩ := hh
  exact ⟨v, H', ι', rfl, fun x ex => by cases ex; exact k1, k2, k3⟩
theorem o_make0 (hT : TOk P T) {t : TypeId} {x y : Operand} {i j : TyI} {u : Nat} {k k' : IntKind} {zi zj : Int} (ho : o.op = .makeSlice t x y) (hx : look e x = some (.int k zi)) (hy : look e y = some (.int k' zj)) (hni : zi = 0) (hnj : zj = 0) (hi : T t = some i) (hk : i.k = .slice u) (hj : T u = some j)
    (hz : j.zero.length = j.size) (hp : 0 < j.size) (h1 : j.zero.all AV.cell1 = true) : OLoc P o e h [] [] (some (.lst false [])) := by
  intro H ι a w s Q hs g1 g2
  have hx' : look s.env x = some (.int k zi) := by rw [g1 x (by rw [ho]; simp [Op.operands]), hx]
  have hy' : look s.env y = some (.int k' zj) := by rw [g1 y (by rw [ho]; simp [Op.operands]), hy]
  have hvx := (look_rel hs hx').int_inv
  have hvy := (look_rel hs hy').int_inv
  subst hni; subst hnj
  obtain ⟨info, d, e1, e2, e3, e4, e5, e6⟩ := tyOf_spec (hT _ _ hi)
  obtain ⟨info', d', e1', e2', e3', e4', e5', e6'⟩ := tyOf_spec (hT _ _ hj)
  have hd := tk_slice (P := P) (d := d) (e3 ▸ hk)
  subst hd
  obtain ⟨z, hz1, hz2⟩ := zero_spec e6' hz hp
  have hrun := run_make (P := P) w t u info' z e2 e1' hz1 k k' 0 0 (by omega) (by omega) (by simp) (by omega)
  have hexec : (execOp a.eval o).run P w = .ok (.value (.slice (some ⟨w.heap.size, 0, none⟩) 0 0)) (w.alloc (.cells (madeCells z.cells (0 * info'.size)) u)) := by
    simp only [execOp, ho, hvx, hvy, Sem.run_bind, hrun, Result.andThen_ok, Sem.run_pure, Int.toNat_zero]
  unfold Oper.wp
  rw [hexec]
  have hold : ∀ rb, rb < w.heap.size → (w.alloc (.cells (madeCells z.cells (0 * info'.size)) u)).heap[rb]? = w.heap[rb]? := fun rb hlt => heap_alloc_old w _ hlt
  refine ⟨_, H, ι, rfl, (fun x ex => ?_), hs.heap.grow hold, Step.grow hold (by simp) rfl rfl⟩
  cases ex
  exact .lst0 _ _ _ _ (fun h => by cases h) (Nat.zero_le _) (fun _ => rfl) trivial
theorem run_eqNil (hT : TOk P T) {t t' : TypeId} {x : Operand} {i : TyI} {u : Nat} (ho : o.op = .binOp .eql t x (.const (.slice none 0 0)) t') (ht : T t = some i) (hk : i.k = .slice u) (a : Act) (w : World) {ad : Option Addr} {n c : Nat} (hv : a.eval x = .slice ad n c) :
    (execOp a.eval o).run P w = .ok (.value (.bool ad.isNone)) w := by
  obtain ⟨info, d, e1, e2, e3, e4, e5, e6⟩ := tyOf_spec (hT _ _ ht)
  have hd := tk_slice (P := P) (d := d) (e3 ▸ hk)
  subst hd
  have hc : a.eval (.const (.slice none 0 0)) = .slice none 0 0 := rfl
  have hg : (eqGuard .eql t x (.const (.slice none 0 0)) (.slice ad n c) (.slice none 0 0)).run P w = .ok () w := by unfold eqGuard; simp
  simp only [execOp, ho, hv, hc, Sem.run_bind, hg, Result.andThen_ok, Lib.run_eql_slice_nil w t u ad n c 0 0 e2, Sem.run_pure]
theorem q_eqNil (hT : TOk P T) {t t' : TypeId} {x : Operand} {i : TyI} {u : Nat} (ho : o.op = .binOp .eql t x (.const (.slice none 0 0)) t') (hx : look e x = some .nil) (ht : T t = some i) (hk : i.k = .slice u) : QLoc P o e h [] (.bool true) := by
  intro H ι a w s hs g1 g2
  have hx' : look s.env x = some .nil := by rw [g1 x (by rw [ho]; simp [Op.operands]), hx]
  exact ⟨_, .bool _ _, run_eqNil hT ho ht hk a w (look_rel hs hx').nil_inv⟩
theorem q_neNil (hT : TOk P T) {t t' : TypeId} {x : Operand} {i : TyI} {u b n off len : Nat} {p : Bool} {sz : Nat} {es : List (List AV)} (ho : o.op = .binOp .eql t x (.const (.slice none 0 0)) t') (hx : look e x = some (.ref b n off len)) (ht : T t = some i) (hk : i.k = .slice u)
    (hb : h b = some (.row p sz es)) (hn : n = es.length) (hpos : 0 < n) : QLoc P o e h [b] (.bool false) := by
  intro H ι a w s hs g1 g2
  have hx' : look s.env x = some (.ref b n off len) := by rw [g1 x (by rw [ho]; simp [Op.operands]), hx]
  have hb' : s.h b = some (.row p sz es) := by rw [g2 b (by simp), hb]
  obtain ⟨r, hl, ⟨r1, r2, r3, r4, r5, r6⟩, r7⟩ := hs.heap.obj b _ hb' rfl
  have hsol : r.csz ≠ 0 := fun h0 => by
    have : 0 < es.length * sz := Nat.mul_pos (by omega) r2
    omega
  obtain ⟨hlen, cap, hvv, _⟩ := (look_rel hs hx').ref_live hl (by omega) hsol
  exact ⟨_, .bool _ _, run_eqNil hT ho ht hk a w hvv⟩
theorem o_anyNil (hT : TOk P T) {t t' : TypeId} {x : Operand} {i : TyI} {u : Nat} {ex : Bool} {es : List (List AV)} (ho : o.op = .binOp .eql t x (.const (.slice none 0 0)) t') (hx : look e x = some (.lst ex es)) (ht : T t = some i) (hk : i.k = .slice u) :
    OLocE P o e h [] (fun W r => W = [] ∧ ∃ v, r = .bool v) := by
  intro H ι a w s Q hs g1 g2
  have hx' : look s.env x = some (.lst ex es) := by rw [g1 x (by rw [ho]; simp [Op.operands]), hx]
  obtain ⟨ad, cap, hv⟩ := (look_rel hs hx').lst_len
  unfold Oper.wp
  rw [run_eqNil hT ho ht hk a w hv]
  exact ⟨[], _, _, H, ι, ⟨rfl, _, rfl⟩, rfl, .bool _ _, hs.heap, Step.refl _ _ _ _⟩
theorem o_clear0 (hT : TOk P T) {t : TypeId} {x : Operand} {i : TyI} {u : Nat} {ex : Bool} (ho : o.op = .call { callee := .builtin .clear, args := #[x], argTypes := #[t] }) (hx : look e x = some (.lst ex [])) (ht : T t = some i) (hk : i.k = .slice u) : OLoc P o e h [] [] (some (.tup [])) := by
  intro H ι a w s Q hs g1 g2
  have hx' : look s.env x = some (.lst ex []) := by rw [g1 x z64q, hx]
  obtain ⟨info, d, e1, e2, e3, e4, e5, e6⟩ := tyOf_spec (hT _ _ ht)
  have hd := tk_slice (P := P) (d := d) (e3 ▸ hk)
  subst hd
  obtain ⟨ad, cap, hv⟩ := (look_rel hs hx').lst_len
  have hrun : (Builtin.clear_ #[t] o.type #[.slice ad 0 cap]).run P w = .ok (.tuple #[]) w := by
    cases ad <;> simp [Builtin.clear_, run_underlying e2]
  have hexec : (execOp a.eval o).run P w = .ok (.value (.tuple #[])) w := by
    simp only [execOp, ho, resolve, invoke, builtin, Sem.run_bind, Sem.run_pure, Result.andThen_ok, List.map_toArray, List.map_cons, List.map_nil]
    rw [show a.eval x = .slice ad 0 cap from hv, hrun]
    rfl
  unfold Oper.wp
  rw [hexec]
  exact ⟨_, H, ι, rfl, (fun x ex => by cases ex; exact .tup _ _ _ rfl (fun j x v h => by simp at h)), hs.heap, Step.refl _ _ _ _⟩
theorem o_clear (hT : TOk P T) {t : TypeId} {x : Operand} {i j : TyI} {u b n : Nat} {es : List (List AV)} {c0 : AV} (ho : o.op = .call { callee := .builtin .clear, args := #[x], argTypes := #[t] }) (hx : look e x = some (.ref b n 0 n)) (ht : T t = some i) (hk : i.k = .slice u) (hj : T u = some j)
    (hb : h b = some (.row true 1 es)) (hn : n = es.length) (hpos : 0 < n) (hz : j.zero = [c0]) (hsz : j.size = 1) (h1 : c0.cell1 = true) (hpu : c0.isPure1 = true) : OLoc P o e h [b] [(b, .row true 1 (List.replicate n [c0]))] (some (.tup [])) := by
  intro H ι a w s Q hs g1 g2
  have hx' : look s.env x = some (.ref b n 0 n) := by rw [g1 x z64q, hx]
  have hb' : s.h b = some (.row true 1 es) := by rw [g2 b (by simp), hb]
  obtain ⟨info, d, e1, e2, e3, e4, e5, e6⟩ := tyOf_spec (hT _ _ ht)
  obtain ⟨info', d', e1', e2', e3', e4', e5', e6'⟩ := tyOf_spec (hT _ _ hj)
  have hd := tk_slice (P := P) (d := d) (e3 ▸ hk)
  subst hd
  obtain ⟨z, hz1, hz2⟩ := zero_spec e6' (by rw [hz, hsz]; rfl) (by omega)
  rw [hz] at hz2
  obtain ⟨z1, z2⟩ := allAV_rel (H := H) (ι := noLay) hz2
  obtain ⟨cv, hcv⟩ : ∃ cv, z.cells = #[cv] := by
    have : z.cells.size = 1 := by simpa using z1.symm
    exact ⟨z.cells[0], by apply Array.ext; · simpa using this
                          · intro k k1 k2; simp at k2; subst k2; simp⟩
  have hcr : Rel H noLay c0 cv := z2 0 c0 cv rfl (by rw [hcv]; rfl)
  have hc1 : cv.oneCell' = true := cell1_rel hcr h1
  subst hn
  obtain ⟨r, hl, ⟨r1, r2, r3, r4, r5, r6⟩, r7⟩ := hs.heap.obj b _ hb' rfl
  have hsol : r.csz ≠ 0 := fun h0 => by omega
  obtain ⟨hlen, cap, hvv, hlc, hcap, hmax⟩ := (look_rel hs hx').ref_live hl (by omega) hsol
  obtain ⟨c, TT, w1, w2, w3⟩ := r6 hsol
  rw [r1] at hvv
  simp only [Nat.zero_mul] at hvv
  have hzc : (Builtin.zeroCells z.cells es.length).toList = List.replicate es.length cv := by
    rw [hcv]
    simp [Builtin.zeroCells]
    apply List.ext_getElem
    · simp
    · intro i h1 h2
      simp [Nat.mod_one]
  have hfit : 0 + 0 + (List.replicate es.length cv).length ≤ c.size := by rw [List.length_replicate, w2]; omega
  have hst := run_storeRowAt P r.rb 0 TT (List.replicate es.length cv) 0 c w w1 hfit (by intro v hv; rw [List.eq_of_mem_replicate hv]; exact hc1)
  simp only [Nat.zero_add, List.take_zero, List.nil_append, List.length_replicate] at hst
  have hrun : (Builtin.clear_ #[t] o.type #[.slice (some ⟨r.rb, 0, none⟩) es.length cap]).run P w = .ok (.tuple #[]) (w.setRow r.rb (List.replicate es.length cv ++ c.toList.drop es.length).toArray) := by
    obtain ⟨m, hm⟩ : ∃ m, es.length = m + 1 := ⟨es.length - 1, by omega⟩
    rw [hm] at hzc hst ⊢
    simp [Builtin.clear_, run_underlying e2, zeroValue, typeInfo, e1', hz1, hzc, hst]
  have hexec : (execOp a.eval o).run P w = .ok (.value (.tuple #[])) (w.setRow r.rb (List.replicate es.length cv ++ c.toList.drop es.length).toArray) := by
    simp only [execOp, ho, resolve, invoke, builtin, Sem.run_bind, Sem.run_pure, Result.andThen_ok, List.map_toArray, List.map_cons, List.map_nil]
    rw [hvv, hrun]
    rfl
  generalize hC : (List.replicate es.length cv ++ c.toList.drop es.length).toArray = C at *
  have hCs : C.size = c.size := by rw [← hC]; simp; omega
  have hrow : rowCells H noLay 1 (List.replicate es.length [c0]) C := by
    refine ⟨fun i cs e => by rw [List.eq_of_mem_replicate (List.mem_of_getElem? e)]; rfl, fun i cs k y e1 e2 => ?_⟩
    have hi : i < es.length := by have := (List.getElem?_eq_some_iff.1 e1).1; simpa using this
    have := List.eq_of_mem_replicate (List.mem_of_getElem? e1)
    subst this
    have hk0 : k = 0 := by have := (List.getElem?_eq_some_iff.1 e2).1; simp at this; omega
    subst hk0
    simp at e2
    subst e2
    refine ⟨cv, ?_, hcr, h1⟩
    rw [← hC]
    simp only [List.getElem?_toArray]
    rw [List.getElem?_append_left (by simp; omega), List.getElem?_replicate, if_pos (by omega)]
  obtain ⟨u1, u2⟩ := hs.heap.upd (w' := w.setRow r.rb C) (o0 := .row true 1 es) (o' := .row true 1 (List.replicate es.length [c0])) (r' := r) hb' rfl
    (.inr ⟨r, hl, rfl, .inl rfl⟩) (fun _ => .inr ⟨r, hl, rfl, hsol, rfl⟩)
    (fun rb hlt' hne => setRow_other w r.rb rb _ (hne r hl rfl hsol)) (by simp) (setRow_os _ _ _) (setRow_out _ _ _)
    ⟨r1, r2, by simp [r3], by simpa using r4, hrow.1, fun _ => ⟨C, TT, w1.setRow hCs, hCs.trans w2, hrow⟩⟩
  unfold Oper.wp
  rw [hexec]
  exact ⟨_, H, _, rfl, (fun x ex => by cases ex; exact .tup _ _ _ rfl (fun j x v h => by simp at h)), u1, u2⟩
end
end Go.Proofs.Ytjmjmedjjbginaa.Sv

namespace Go.Proofs.Ytjmjmedjjbginaa.Sv
open Go
section
variable {P : Program} {Q : Exit → AState → Prop} {s : AState} {c : Code}
end
end Go.Proofs.Ytjmjmedjjbginaa.Sv

namespace Go.Proofs.Ytjmjmedjjbginaa.Sv
open Go
section
variable {P : Program} {T : Nat → Option TyI} {o : Oper} {e : AEnv} {h : AHeap}
end
end Go.Proofs.Ytjmjmedjjbginaa.Sv

namespace Go.Proofs.Ytjmjmedjjbginaa.Sv
open Go
section
variable {P : Program} {T : Nat → Option TyI} {o : Oper} {e : AEnv} {h : AHeap}
end
end Go.Proofs.Ytjmjmedjjbginaa.Sv

namespace Go.Proofs.Ytjmjmedjjbginaa.Sv
open Go
def arrAV (K : IntKind) (l : List Int) : List AV := l.map fun n => .int K n
def arrV (K : IntKind) (l : List Int) : Array Value := (l.map fun n => Value.int K n).toArray
section
variable {P : Program}
end
abbrev AMap := List (List Int × AV)
def kvsA (K : IntKind) (m : AMap) : List (AV × AV) := m.map fun p => (.agg (arrAV K p.1), p.2)
inductive EntRelA (H : Know) (K : IntKind) : AMap → List MapEntry → Prop
  | nil : EntRelA H K [] []
  | cons (z : List Int) (v : AV) (m : AMap) (e : MapEntry) (es : List MapEntry) (hk : e.key = .agg (arrV K z)) (hv : Rel H noLay v e.val) (h : EntRelA H K m es) : EntRelA H K ((z, v) :: m) (e :: es)

theorem intsRel (H : Know) (K : IntKind) (z : List Int) : Rel H noLay (.agg (arrAV K z)) (.agg (arrV K z)) :=
  .agg _ _ _ (by simp [arrAV, arrV]) fun j x u h1 h2 => by
    simp only [arrAV, List.getElem?_map, Option.map_eq_some_iff] at h1
    obtain ⟨n, hn, rfl⟩ := h1
    have : u = .int K n := by simpa [arrV, hn] using h2.symm
    subst this
    exact .int _ _ _
theorem EntRelA.out {H : Know} {K : IntKind} {m : AMap} {es : List MapEntry} (h : EntRelA H K m es) : (kvsA K m).length = es.length ∧ ∀ (j : Nat) (k v : AV), (kvsA K m)[j]? = some (k, v) → ∃ e, es[j]? = some e ∧ Rel H noLay k e.key ∧ Rel H noLay v e.val := by
  induction h with
  | nil => exact ⟨rfl, fun j k v h => by simp [kvsA] at h⟩
  | cons z v m e es hk hv h ih =>
    refine ⟨by simpa [kvsA] using ih.1, fun j k u hj => ?_⟩
    cases j with
    | zero =>
      simp [kvsA] at hj
      obtain ⟨rfl, rfl⟩ := hj
      exact ⟨e, rfl, by rw [hk]; exact intsRel _ _ _, hv⟩
    | succ j =>
      obtain ⟨e', k1, k2⟩ := ih.2 j k u (by simpa [kvsA] using hj)
      exact ⟨e', by simpa using k1, k2⟩
section
variable {P : Program} {T : Nat → Option TyI} {o : Oper} {e : AEnv} {h : AHeap}
end
end Go.Proofs.Ytjmjmedjjbginaa.Sv

namespace Go.Proofs.Ytjmjmedjjbginaa.Sv
open Go
def slA (b : Nat) (es : List (List AV)) : AV := jAV es.isEmpty b es
def slO (sz : Nat) (es : List (List AV)) : AObj := jObj es.isEmpty sz es
def vaA (b : Nat) (es : List (List AV)) : AV := bif es.isEmpty then .lst false [] else .ref b es.length 0 es.length
def vaO (es : List (List AV)) : AObj := bif es.isEmpty then .free else .row true 1 es
theorem snoc_ne {α : Type} (l : List α) (x : α) : (l ++ [x]).isEmpty = false := by cases l <;> rfl
theorem isEmpty_ne {α : Type} {l : List α} {k : Nat} (h : k < l.length) : l.isEmpty = false := by cases l with | nil => simp at h | cons => rfl
theorem slA_snoc (b : Nat) (es : List (List AV)) (x : List AV) : slA b (es ++ [x]) = .ref b (es.length + 1) 0 (es.length + 1) := by
  simp [slA, snoc_ne, jAV]
theorem slA_at {b k : Nat} {es : List (List AV)} (h : k < es.length) : slA b es = .ref b es.length 0 es.length := by simp [slA, isEmpty_ne h, jAV]
theorem slO_at {sz k : Nat} {es : List (List AV)} (h : k < es.length) : slO sz es = .row true sz es := by simp [slO, isEmpty_ne h, jObj]
theorem jAV_cells (f : Bool) (b : Nat) (es : List (List AV)) : (jAV f b es).cells = [jAV f b es] := by cases f <;> rfl
theorem slA_cells (b : Nat) (es : List (List AV)) : (slA b es).cells = [slA b es] := jAV_cells _ _ _
theorem slA_cell1 (b : Nat) (es : List (List AV)) : (slA b es).cell1 = true := by unfold slA jAV; cases es.isEmpty <;> rfl
theorem slA_avoid {k : Nat → Bool} {b : Nat} (es : List (List AV)) (h : k b = true) : (slA b es).avoid k = true := by unfold slA jAV; cases es.isEmpty <;> simp [AV.avoid, AV.flat, h]
theorem vaA_avoid {k : Nat → Bool} {b : Nat} (es : List (List AV)) (h : k b = true) : (vaA b es).avoid k = true := by unfold vaA; cases es.isEmpty <;> simp [AV.avoid, AV.flat, h]
theorem slO_avoid {k : Nat → Bool} (sz : Nat) (es : List (List AV)) : (slO sz es).avoid k = true := by unfold slO jObj; cases es.isEmpty <;> rfl
theorem vaO_avoid {k : Nat → Bool} (es : List (List AV)) : (vaO es).avoid k = true := by unfold vaO; cases es.isEmpty <;> rfl

section
variable {P : Program} {T : Nat → Option TyI} {o : Oper} {e : AEnv} {h : AHeap}
theorem q_lenJ (hT : TOk P T) {t : TypeId} {x : Operand} {b : Nat} {es : List (List AV)} {i : TyI} {u : Nat} (ho : o.op = .call { callee := .builtin .len, args := #[x], argTypes := #[t] }) (hx : look e x = some (slA b es)) (hi : T t = some i) (hk : i.k = .slice u) : QLoc P o e h [] (.int .i64 (es.length : Int)) := by
  unfold slA jAV at hx
  cases hf : es.isEmpty with
  | true => rw [hf] at hx; exact q_len hT ho hx hi (by rw [hk]; rfl) rfl
  | false => rw [hf] at hx; exact q_len hT ho hx hi (by rw [hk]; rfl) rfl
theorem q_indexJ (hT : TOk P T) {t : TypeId} {x y : Operand} {b sz : Nat} {es : List (List AV)} {k : IntKind} {n : Int} {i j : TyI} {u : Nat} (ho : o.op = .indexAddr t x y) (hx : look e x = some (slA b es)) (hy : look e y = some (.int k n))
    (hi : T t = some i) (hk : i.k = .slice u) (hj : T u = some j) (hb : h b = some (slO sz es)) (hsz : sz = j.size) (h0 : 0 ≤ n) (hn : n < es.length) : QLoc P o e h [b] (.ptr b es.length n.toNat 0) := by
  have hlt : n.toNat < es.length := by omega
  rw [slA_at hlt] at hx
  rw [slO_at hlt] at hb
  have := q_index_ref hT ho hx hy hi hk hj hb rfl hsz h0 hn
  rwa [Nat.zero_add] at this
theorem o_store1 (hT : TOk P T) {t : TypeId} {x y : Operand} {b m k off : Nat} {p : Bool} {sz : Nat} {es : List (List AV)} {cs : List AV} {q : AV} {i : TyI} (ho : o.op = .store t x y) (hd : o.dst = none) (hx : look e x = some (.ptr b m k off)) (hy : look e y = some q) (hi : T t = some i) (his : i.size = 1)
    (hb : h b = some (.row p sz es)) (hm : m = es.length) (hk : es[k]? = some cs) (hq : q.cells = [q]) (hfit : off + 1 ≤ sz) (h1 : q.cell1 = true) (hp : p = true → q.isPure1 = true) :
    OLoc P o e h [b] [(b, .row p sz (es.set k (splice cs off [q])))] none := by
  have := o_store hT ho hd hx hy hi hb hm hk (by rw [hq, his]; rfl) (by rw [his]; exact hfit) (by rw [hq]; simp [h1]) (fun h => by rw [hq]; simp [hp h])
  rwa [hq] at this
theorem o_append1J (hT : TOk P T) {t t' : TypeId} {x y : Operand} {i i' j : TyI} {u u' : Nat} {ex2 : Bool} {sz : Nat} {es : List (List AV)} {x0 : List AV} {b : Nat}
    (ho : o.op = .call { callee := .builtin .append, args := #[x, y], argTypes := #[t, t'] }) (hx : look e x = some (slA b es)) (hy : look e y = some (.lst ex2 [x0])) (hi : T t = some i) (hk : i.k = .slice u) (hj : T u = some j) (hi' : T t' = some i') (hk' : i'.k = .slice u')
    (hb : h b = some (slO sz es)) (hsz : sz = j.size) (hz : j.zero.length = j.size) (hp : 0 < j.size)
    (hu : ∀ cs ∈ es, cs.length = sz) (hpu : ∀ cs ∈ es, cs.all AV.isPure1 = true) (hu2 : x0.length = sz) (hpure : x0.all AV.isPure1 = true)
    (hby : (es.length + 1) * j.bytes ≤ 140737488355328) (hml : es.length + 1 ≤ maxLen) :
    OLoc P o e h [b] [(b, slO sz (es ++ [x0]))] (some (slA b (es ++ [x0]))) := by
  have := o_appendJ (f := es.isEmpty) hT b ho hx hy hi hk hj hi' hk' hb hsz hz hp hu hpu (by simpa using hu2) (by simpa using hpure) hby hml
  have e1 : (es.isEmpty && [x0].isEmpty) = (es ++ [x0]).isEmpty := by rw [snoc_ne]; simp
  rw [e1] at this
  exact this
end
theorem Ghost.weakRowF {n : Nat} {e : AEnv} {h : AHeap} (b : Nat) {sz : Nat} {es es' : List (List AV)} (hb : h b = some (.row false sz es)) (hl : es'.length = es.length)
    (hw : ∀ (i : Nat) (cs cs' : List AV), es[i]? = some cs → es'[i]? = some cs' → cs'.length = cs.length ∧ ∀ (j : Nat) (x y : AV), cs[j]? = some x → cs'[j]? = some y → (x.cell1 = true → y.cell1 = true) ∧ ∀ H ι v, Rel H ι x v → Rel H ι y v) : Ghost ⟨n, e, h⟩ ⟨n, e, hput h b (.row false sz es')⟩ := fun H ι a w hs => by
  obtain ⟨r, hr, ⟨r1, r2, r3, r4, r5, r6⟩, r7⟩ := hs.heap.obj b _ hb rfl
  have hlput : lput ι b r = ι := by
    funext c
    by_cases hc : c = b
    · subst hc; rw [lput_same, hr]
    · rw [lput_ne _ _ hc]
  have hget : ∀ (i : Nat) (cs' : List AV), es'[i]? = some cs' → ∃ cs, es[i]? = some cs := fun i cs' hi => by
    have : i < es'.length := (List.getElem?_eq_some_iff.1 hi).1
    exact ⟨es[i]'(by omega), List.getElem?_eq_getElem (by omega)⟩
  have := hs.heap.upd (o' := .row false sz es') (r' := r) (w' := w) hb rfl (.inr ⟨r, hr, rfl, .inl rfl⟩) (fun hsol => .inr ⟨r, hr, rfl, hsol, rfl⟩) (fun _ _ _ => rfl) (Nat.le_refl _) rfl rfl
    ⟨r1, r2, by rw [hl]; exact r3, by rw [hl]; exact r4, fun i cs' hi => by
      obtain ⟨cs, hc⟩ := hget i cs' hi
      rw [(hw i cs cs' hc hi).1]; exact r5 i cs hc, fun hsol => by
      obtain ⟨c, T, c1, c2, c3, c4⟩ := r6 hsol
      refine ⟨c, T, c1, c2, fun i cs' hi => ?_, ?_⟩
      · obtain ⟨cs, hc⟩ := hget i cs' hi
        rw [(hw i cs cs' hc hi).1]; exact r5 i cs hc
      rw [hlput]
      intro i cs' j y hi hj
      obtain ⟨cs, hc⟩ := hget i cs' hi
      obtain ⟨w1, w2⟩ := hw i cs cs' hc hi
      have hjlt : j < cs'.length := (List.getElem?_eq_some_iff.1 hj).1
      have hx : cs[j]? = some (cs[j]'(by omega)) := List.getElem?_eq_getElem (by omega)
      obtain ⟨v, v1, v2, v3⟩ := c4 i cs j _ hc hx
      obtain ⟨g1, g2⟩ := w2 j _ y hx hj
      exact ⟨v, v1, g2 _ _ _ v2, g1 v3⟩⟩
  rw [hlput] at this
  exact ⟨H, ι, ⟨hs.n, hs.d, hs.env, this.1⟩, this.2⟩
end Go.Proofs.Ytjmjmedjjbginaa.Sv

namespace Go.Proofs.Ytjmjmedjjbginaa.Sv
open Go
section
variable {P : Program} {T : Nat → Option TyI} {o : Oper} {e : AEnv} {h : AHeap}
end
end Go.Proofs.Ytjmjmedjjbginaa.Sv
