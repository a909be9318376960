/-
  A CALL THAT LOOKS AT ROWS OF THE CALLER, AND MAY CHANGE THEM: own work, over no program.
-/
import Derived.Test.YtidfabbnobipkaaSv20
namespace Go.Proofs.Ytidfabbnobipkaa.Sv
open Go
set_option linter.unusedVariables false
set_option linter.unusedSimpArgs false

def mem (L : List Nat) : Nat → Bool := fun b => L.any (fun c => Nat.beq b c)
theorem mem_iff {L : List Nat} {b : Nat} : mem L b = true ↔ b ∈ L := by
  unfold mem
  rw [List.any_eq_true]
  constructor
  · rintro ⟨c, h1, h2⟩
    rw [Nat.eq_of_beq_eq_true h2]; exact h1
  · exact fun h => ⟨b, h, Nat.beq_refl b⟩

/-- The heap that a call sees. -/
def hres (h : AHeap) (L : List Nat) : AHeap := fun b => bif mem L b then h b else some .free
theorem hres_nil (h : AHeap) : hres h [] = hNew := rfl
theorem hres_cons {h h' : AHeap} {L : List Nat} {b : Nat} {o : AObj} (ho : h b = some o) (hr : hres h L = h') : hres h (b :: L) = hput h' b o := by
  subst hr
  funext x
  by_cases hx : x = b
  · subst hx
    rw [hput_same]
    have : mem (x :: L) x = true := mem_iff.2 (by simp)
    simp only [hres, this, cond_true]; exact ho
  · rw [hput_ne _ _ hx]
    have : mem (b :: L) x = mem L x := by
      simp only [mem, List.any_cons, beq_false_of_ne hx, Bool.false_or]
    simp only [hres, this]

def AllL : List Nat → (Nat → Prop) → Prop
  | [], _ => True
  | b :: L, p => p b ∧ AllL L p
theorem AllL.get {p : Nat → Prop} : ∀ {L : List Nat}, AllL L p → ∀ b ∈ L, p b
  | b :: L, h, c, hc => by
    rcases List.mem_cons.1 hc with rfl | hc
    · exact h.1
    · exact AllL.get h.2 c hc

/-- the layout afterwards -/
def lmix (ι ι' : Lay) (L : List Nat) : Lay := fun b => bif mem L b then ι' b else ι b

theorem hputs_not {W : List (Nat × AObj)} {b : Nat} : ∀ {h : AHeap}, (∀ p ∈ W, p.1 ≠ b) → hputs h W b = h b := by
  induction W with
  | nil => exact fun _ => rfl
  | cons p W ih =>
    intro h hp
    show hputs (hput h p.1 p.2) W b = h b
    rw [ih (fun q hq => hp q (List.mem_cons_of_mem _ hq)), hput_ne _ _ (fun e => hp p List.mem_cons_self e.symm)]

theorem hputs_agree {W : List (Nat × AObj)} {b : Nat} : ∀ {h h' : AHeap}, h b = h' b → hputs h W b = hputs h' W b := by
  induction W with
  | nil => exact fun h => h
  | cons p W ih =>
    intro h h' hh
    refine ih ?_
    by_cases hb : b = p.1
    · subst hb; rw [hput_same, hput_same]
    · rw [hput_ne _ _ hb, hput_ne _ _ hb, hh]

theorem call_mix {H : Know} {ι : Lay} {h : AHeap} {w : World} {L : List Nat} {W : List (Nat × AObj)} {H' : Know} {ι' : Lay} {h' : AHeap} {w' : World} (hr : HeapRel H ι h w)
    (hL : ∀ b ∈ L, ∃ o, h b = some o ∧ o.avoid (mem L) = true) (hW : ∀ p ∈ W, p.1 ∈ L)
    (hk : ∀ b ∈ L, ∃ o, h' b = some o ∧ hputs h W b = some o ∧ o.avoid (mem L) = true)
    (hr' : HeapRel H' ι' h' w') (hst : Step H (lcut ι (mem L)) (hres h L) w H' ι' h' w') :
    HeapRel H' (lmix ι ι' L) (hputs h W) w' ∧ Step H ι h w H' (lmix ι ι' L) (hputs h W) w' := by
  have mT : ∀ b, b ∈ L → lmix ι ι' L b = ι' b := fun b hb => by simp only [lmix, mem_iff.2 hb, cond_true]
  have mF : ∀ b, b ∉ L → lmix ι ι' L b = ι b := fun b hb => by
    have : mem L b = false := by cases e : mem L b with | false => rfl | true => exact absurd (mem_iff.1 e) hb
    simp only [lmix, this, cond_false]
  have cT : ∀ b, b ∈ L → lcut ι (mem L) b = ι b := fun b hb => lcut_lt (mem_iff.2 hb)
  have rT : ∀ b, b ∈ L → hres h L b = h b := fun b hb => by simp only [hres, mem_iff.2 hb, cond_true]
  have rF : ∀ b, b ∉ L → hres h L b = some .free := fun b hb => by
    have : mem L b = false := by cases e : mem L b with | false => rfl | true => exact absurd (mem_iff.1 e) hb
    simp only [hres, this, cond_false]
  have wF : ∀ b, b ∉ L → hputs h W b = h b := fun b hb => hputs_not fun p hp e => hb (e ▸ hW p hp)
  have own : ∀ rb, Owned (hres h L) (lcut ι (mem L)) rb → Owned h ι rb := by
    rintro rb ⟨b, o, r, h1, h2, h3, h4, h5⟩
    by_cases hb : b ∈ L
    · exact ⟨b, o, r, by rw [← rT b hb]; exact h1, h2, lcut_some h3, h4, h5⟩
    · rw [rF b hb] at h1; cases h1; cases h2
  -- rows that the call didn't see are none of its
  have apart : ∀ b o r, b ∉ L → h b = some o → o.alive = true → ι b = some r → r.solid → ¬ Owned (hres h L) (lcut ι (mem L)) r.rb := by
    rintro b o r hb h1 h2 h3 h4 ⟨b', o', r', g1, g2, g3, g4, g5⟩
    by_cases hb' : b' ∈ L
    · exact hr.inj b b' o o' r r' h1 h2 (by rw [← rT b' hb']; exact g1) g2 h3 (lcut_some g3) h4 g4 (fun e => hb (e ▸ hb')) g5.symm
    · rw [rF b' hb'] at g1; cases g1; cases g2
  have lle : LLe ι (lmix ι ι' L) := fun b r e => by
    by_cases hb : b ∈ L
    · rw [mT b hb]; exact hst.lle b r (by rw [cT b hb]; exact e)
    · rw [mF b hb]; exact ⟨r, e, .inl rfl⟩
  have lle' : LLe (lcut ι' (mem L)) (lmix ι ι' L) := fun b r e => by
    by_cases hb : b ∈ L
    · rw [mT b hb]; exact ⟨r, lcut_some e, .inl rfl⟩
    · have : mem L b = false := by cases e : mem L b with | false => rfl | true => exact absurd (mem_iff.1 e) hb
      simp only [lcut, this, cond_false] at e; cases e
  have blk : ∀ b o r, b ∉ L → h b = some o → o.alive = true → ι b = some r → r.solid → w'.heap[r.rb]? = w.heap[r.rb]? := fun b o r hb h1 h2 h3 h4 =>
    hst.keep r.rb (hr.lt ⟨b, o, r, h1, h2, h3, h4, rfl⟩) (apart b o r hb h1 h2 h3 h4)
  have noK : ∀ b o r, b ∉ L → h b = some o → o.alive = true → ι b = some r → r.solid → H r.rb = none → H' r.rb = none := fun b o r hb h1 h2 h3 h4 h5 => by
    cases e : H' r.rb with
    | none => rfl
    | some c =>
      rcases hst.knew r.rb (by rw [e]; simp) with g | g | g
      · exact absurd h5 g
      · have := hr.lt ⟨b, o, r, h1, h2, h3, h4, rfl⟩; omega
      · exact absurd g (apart b o r hb h1 h2 h3 h4)
  -- a row of the call's, afterwards: not one of those that it didn't see
  have apart' : ∀ b b' o r r', b ∉ L → b' ∈ L → h b = some o → o.alive = true → ι b = some r → r.solid → ι' b' = some r' → r'.solid → r.rb ≠ r'.rb := fun b b' o r r' hb hb' h1 h2 h3 h4 g1 g2 e => by
    have alive' : ∀ r0, ι b' = some r0 → r0.solid → r0.rb = r'.rb → False := fun r0 e0 es e1 => by
      obtain ⟨o0, k1, _⟩ := hL b' hb'
      have ka : o0.alive = true := by
        cases o0 with
        | free => rw [hr.free b' k1] at e0; cases e0
        | _ => rfl
      exact hr.inj b b' o o0 r r0 h1 h2 k1 ka h3 e0 h4 es (fun e => hb (e ▸ hb')) (e.trans e1.symm)
    rcases hst.newrb b' r' g1 g2 with k | k | ⟨r0, k1, k2, k3⟩
    · exact alive' r' (lcut_some k) g2 rfl
    · have := hr.lt ⟨b, o, r, h1, h2, h3, h4, rfl⟩; omega
    · exact alive' r0 (lcut_some k1) k2 k3
  refine ⟨⟨hr'.know, fun b hb => ?_, fun b o h1 h2 => ?_, fun b b' o o' r r' h1 h2 h3 h4 h5 h6 s1 s2 hne => ?_⟩, ⟨hst.size, hst.os, hst.out, fun rb hlt hno => hst.keep rb hlt (fun h => hno (own rb h)), hst.kle, fun b hb => ?_, lle, fun b e => ?_, fun b r' e es => ?_, fun b e => ?_⟩⟩
  · by_cases hbL : b ∈ L
    · obtain ⟨o, k1, k2, _⟩ := hk b hbL
      rw [k2] at hb; cases hb
      rw [mT b hbL]; exact hr'.free b k1
    · rw [wF b hbL] at hb; rw [mF b hbL]; exact hr.free b hb
  · by_cases hbL : b ∈ L
    · obtain ⟨o', k1, k2, k3⟩ := hk b hbL
      rw [k2] at h1; cases h1
      obtain ⟨r, r1, r2, r3⟩ := hr'.obj b o k1 h2
      exact ⟨r, by rw [mT b hbL]; exact r1, (objOk_cut r2 k3).mono (KLe.refl _) lle' (fun _ => rfl), r3⟩
    · rw [wF b hbL] at h1
      obtain ⟨r, r1, r2, r3⟩ := hr.obj b o h1 h2
      exact ⟨r, by rw [mF b hbL]; exact r1, r2.mono hst.kle lle (fun hs => blk b o r hbL h1 h2 r1 hs), fun hs => noK b o r hbL h1 h2 r1 hs (r3 hs)⟩
  · by_cases hb : b ∈ L <;> by_cases hb' : b' ∈ L
    · obtain ⟨q, k1, k2, _⟩ := hk b hb
      obtain ⟨q', k1', k2', _⟩ := hk b' hb'
      rw [k2] at h1; cases h1
      rw [k2'] at h3; cases h3
      rw [mT b hb] at h5; rw [mT b' hb'] at h6
      exact hr'.inj b b' _ _ r r' k1 h2 k1' h4 h5 h6 s1 s2 hne
    · rw [wF b' hb'] at h3; rw [mF b' hb'] at h6; rw [mT b hb] at h5
      exact fun e => apart' b' b o' r' r hb' hb h3 h4 h6 s2 h5 s1 e.symm
    · rw [wF b hb] at h1; rw [mF b hb] at h5; rw [mT b' hb'] at h6
      exact apart' b b' o r r' hb hb' h1 h2 h5 s1 h6 s2
    · rw [wF b hb] at h1; rw [mF b hb] at h5; rw [wF b' hb'] at h3; rw [mF b' hb'] at h6
      exact hr.inj b b' o o' r r' h1 h2 h3 h4 h5 h6 s1 s2 hne
  · rcases hst.knew b hb with g | g | g
    · exact .inl g
    · exact .inr (.inl g)
    · exact .inr (.inr (own b g))
  · by_cases hb : b ∈ L
    · obtain ⟨o, k1, _⟩ := hL b hb; rw [k1] at e; cases e
    · exact mF b hb
  · by_cases hb : b ∈ L
    · rw [mT b hb] at e
      rcases hst.newrb b r' e es with k | k | ⟨r0, k1, k2, k3⟩
      · exact .inl (lcut_some k)
      · exact .inr (.inl k)
      · exact .inr (.inr ⟨r0, lcut_some k1, k2, k3⟩)
    · rw [mF b hb] at e; exact .inl e
  · by_cases hb : b ∈ L
    · obtain ⟨o, k1, _⟩ := hL b hb; rw [k1] at e; cases e
    · rw [wF b hb]; exact e

section
variable {P : Program} {o : Oper} {e : AEnv} {h : AHeap}

/-- A call by a contract that tells what becomes of the rows of L. -/
theorem o_call {f : FuncId} {fn : Func} {args : Array Operand} {tys : Array TypeId} {xs : List AV} {r : AV} {hc hw : AHeap} (L : List Nat) (W : List (Nat × AObj)) (ho : o.op = .call { callee := .value (.func f), args := args, argTypes := tys }) (hf : P.funcs[f]? = some fn) (hn : (fn.name == "runtime.NumGoroutine") = false) (hb : fn.body.isSome = true)
    (hx : lookAll e args.toList = some xs) (hxa : xs.all (AV.avoid (mem L)) = true) (hL : AllL L fun b => ∃ q, h b = some q ∧ q.avoid (mem L) = true) (hW : W.all (fun p => mem L p.1) = true) (hres' : hres h L = hc)
    (hk : AllL L fun b => ∃ q, hw b = some q ∧ hputs h W b = some q ∧ q.avoid (mem L) = true) (hra : r.avoid (mem L) = true)
    (hcall : ACall P f xs hc (fun r' h' => r' = r ∧ HSub hw h')) : OLoc P o e h L W (some r) := by
  intro H ι a w s Q hs g1 g2
  have hx' : lookAll s.env args.toList = some xs := by
    rw [lookAll_agree (e := e) (fun x hx => g1 x (by rw [ho]; simp [Op.operands, Call.operands]; exact .inr (by simpa using hx)))]; exact hx
  have hraa := relAll_map hs hx'
  have hra' : RelAll H (lcut ι (mem L)) xs (args.map a.eval) := ⟨hraa.1, fun j x v h1 h2 => avoid_rel (hraa.2 j x v h1 h2) (all_get hxa h1)⟩
  have hLs : ∀ b ∈ L, ∃ q, s.h b = some q ∧ q.avoid (mem L) = true := fun b hb => by rw [g2 b hb]; exact hL.get b hb
  have hres2 : hres s.h L = hc := by
    rw [← hres']
    funext b
    unfold hres
    cases e : mem L b with
    | true => simp only [cond_true]; exact g2 b (mem_iff.1 e)
    | false => rfl
  have hrc : HeapRel H (lcut ι (mem L)) (hres s.h L) w := by
    have key : ∀ b o, hres s.h L b = some o → o.alive = true → b ∈ L ∧ s.h b = some o := fun b o h1 h2 => by
      unfold hres at h1
      cases e : mem L b with
      | true => rw [e] at h1; exact ⟨mem_iff.1 e, h1⟩
      | false => rw [e] at h1; cases h1; cases h2
    refine ⟨hs.heap.know, fun b hb => ?_, fun b o h1 h2 => ?_, fun b b' o o' r r' h1 h2 h3 h4 h5 h6 => ?_⟩
    · unfold hres at hb
      unfold lcut
      cases e : mem L b with
      | true => rw [e] at hb; exact hs.heap.free b hb
      | false => rfl
    · obtain ⟨k1, k2⟩ := key b o h1 h2
      obtain ⟨r, r1, r2, r3⟩ := hs.heap.obj b o k2 h2
      obtain ⟨q, q1, q2⟩ := hLs b k1
      rw [k2] at q1; cases q1
      exact ⟨r, by rw [lcut_lt (mem_iff.2 k1)]; exact r1, objOk_cut r2 q2, r3⟩
    · exact hs.heap.inj b b' o o' r r' (key b o h1 h2).2 h2 (key b' o' h3 h4).2 h4 (lcut_some h5) (lcut_some h6)
  have hcalls := hcall H (lcut ι (mem L)) w _ hra' (hres2 ▸ hrc)
  have hexec : (execOp a.eval o).run P w = .ok (.enter f (args.map a.eval)) w := by
    simp [execOp, ho, resolve, Act.eval, Deferred.ofValue, invoke, run_callFunc hf hn hb]
  unfold Oper.wp
  rw [hexec]
  refine hcalls.mono fun en w' hh => ?_
  obtain ⟨v, r', h', H', ι', rfl, ⟨rfl, hsub⟩, k1, k2, k3⟩ := hh
  have hk' : ∀ b ∈ L, ∃ q, h' b = some q ∧ hputs s.h W b = some q ∧ q.avoid (mem L) = true := fun b hb => by
    obtain ⟨q, q1, q2, q3⟩ := hk.get b hb
    exact ⟨q, hsub b q q1, by rw [hputs_agree (g2 b hb)]; exact q2, q3⟩
  obtain ⟨u1, u2⟩ := call_mix hs.heap hLs (fun p hp => mem_iff.1 (List.all_eq_true.1 hW p hp)) hk' k2 (hres2.symm ▸ k3)
  refine ⟨v, H', _, rfl, fun x ex => ?_, u1, u2⟩
  cases ex
  refine (avoid_rel k1 hra).mono (KLe.refl _) fun b r e => ?_
  by_cases hb : b ∈ L
  · exact ⟨r, by simp only [lmix, mem_iff.2 hb, cond_true]; exact lcut_some e, .inl rfl⟩
  · have : mem L b = false := by cases e : mem L b with | false => rfl | true => exact absurd (mem_iff.1 e) hb
    simp only [lcut, this, cond_false] at e; cases e

end
end Go.Proofs.Ytidfabbnobipkaa.Sv
